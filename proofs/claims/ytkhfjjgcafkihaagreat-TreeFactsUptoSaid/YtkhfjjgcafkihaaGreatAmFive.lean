/- Part of the proof: abstract values over the given model of Go (AmZH, AmZI, AmZJ). Conditions: none of its own; see the statement in the seat's Rows text. -/
import Derived.Test.YtkhfjjgcafkihaaGreatAmFour
set_option linter.unusedSimpArgs false
set_option linter.unusedVariables false
set_option linter.unusedSectionVars false
namespace Go.Am
/-! ### a run that the kernel works out -/
/-- Hangs on ids below n alone (decided). -/
def blw (n : Nat) : Nat → AV → Bool
  | 0, _ => false
  | d + 1, x => match x with
    | .junk | .bool _ | .int _ _ | .str _ | .nsl | .np | .nmap | .nfn | .nif => true
    | .agg cs | .tup cs | .rp cs => cs.all (blw n d)
    | .sl xs => xs.all fun e => e.all (blw n d)
    | .ptr id _ | .ep id _ _ | .ls id _ _ | .map id | .it id => decide (id < n)
    | .fn _ a b => a.all (blw n d) && b.all (blw n d)
    | .ifc _ x => blw n d x
theorem blw_sound {n : Nat} : ∀ {d : Nat} {x : AV}, blw n d x = true → Below n x := by
  intro d
  induction d with
  | zero => intro x h; cases h
  | succ d ih =>
    intro x h
    cases x <;> simp only [blw, List.all_eq_true, decide_eq_true_eq, Bool.and_eq_true] at h
    case junk => exact .junk
    case bool b => exact .bool b
    case int k i => exact .int k i
    case str s => exact .str s
    case nsl => exact .nsl
    case np => exact .np
    case nmap => exact .nmap
    case nfn => exact .nfn
    case nif => exact .nif
    case agg cs => exact .agg _ fun i x hx => ih (h x (List.mem_of_getElem? hx))
    case tup cs => exact .tup _ fun i x hx => ih (h x (List.mem_of_getElem? hx))
    case rp cs => exact .rp _ fun i x hx => ih (h x (List.mem_of_getElem? hx))
    case sl xs => exact below_sl.2 fun e he x hx => ih (h e he x hx)
    case ptr id o => exact .ptr _ _ h
    case ep id i j => exact .ep _ _ _ h
    case ls id i j => exact .ls _ _ _ h
    case map id => exact .map _ h
    case it id => exact .it _ h
    case fn f a b => exact .fn _ _ _ (fun i x hx => ih (h.1 x (List.mem_of_getElem? hx))) fun i x hx => ih (h.2 x (List.mem_of_getElem? hx))
    case ifc t x => exact .ifc _ _ (ih h)
/-- A new row, as data (decided). -/
def zrowC (s : St) (p : Option (AV × St)) : Option (AV × St × List Nat) :=
  match p with
  | some (.ls id 0 n, s1) => match s1.get id with
    | some (.row sz _ es) => if decide (s.nx ≤ id) && decide (n = es.length) && es.all (fun e => decide (e.length = sz) && e.all (blw s.nx 40)) then some (.sl es, s, []) else none
    | _ => none
  | _ => none
theorem zrowC_sound {s : St} {p : Option (AV × St)} {q : AV × St × List Nat} (h : zrowC s p = some q) : zrow s p = some q := by
  unfold zrowC at h
  split at h
  · rename_i id n s1
    split at h
    · rename_i sz k es hs
      split at h
      · rename_i hc
        simp only [Bool.and_eq_true, decide_eq_true_eq, List.all_eq_true] at hc
        simp only [zrow, hs]
        rw [if_pos ⟨⟨hc.1.1, hc.1.2⟩, fun e he => (hc.2 e he).1, fun e he x hx => blw_sound ((hc.2 e he).2 x hx)⟩]
        exact h
      · cases h
    · cases h
  · cases h
/-- Operations that change nothing. -/
def opPure : Op → Bool
  | .move _ | .assign _ | .pick _ _ _ | .build _ _ | .load _ _ | .nilCheck _ | .binOp _ _ _ _ _ | .unOp _ _ _ | .convert _ _ _ | .makeFunc _ _ _ | .fieldAddr _ _ _ | .field _ _ _ | .indexAddr _ _ _ | .index _ _ _ | .extract _ _ | .lookup _ _ _ _ => true
  | .slice _ _ _ _ none => true
  | _ => false
theorem map_st {α : Type} {s s' : St} {f : α → AV} {x : Option α} {r : AV} (h : x.map (fun a => (f a, s)) = some (r, s')) : s' = s := by
  obtain ⟨a, _, h⟩ := Option.map_eq_some_iff.1 h
  simp only [Prod.mk.injEq] at h
  exact h.2.symm
theorem opPure_sound {E : Env} {op : Op} {ρ : Operand → AV} {s s' : St} {r : AV} (hp : opPure op = true) (h : aop E op ρ s = some (r, s')) : s' = s := by
  cases op <;> simp only [opPure, Bool.false_eq_true] at hp
  case move x => simp only [aop, Option.some.injEq, Prod.mk.injEq] at h; exact h.2.symm
  case assign x => simp only [aop, Option.some.injEq, Prod.mk.injEq] at h; exact h.2.symm
  case pick c a b =>
    simp only [aop] at h
    split at h
    · simp only [Option.some.injEq, Prod.mk.injEq] at h; exact h.2.symm
    · cases h
  case build t ps => exact map_st (f := fun a => a) h
  case load t a =>
    simp only [aop] at h
    split at h
    · split at h
      · exact map_st (f := fun a => a) h
      · cases h
    · cases h
  case nilCheck x => exact map_st (f := fun a => a) h
  case binOp op t x y u => exact map_st (f := fun a => a) h
  case unOp op t x => exact map_st (f := fun a => a) h
  case convert a b x => exact map_st (f := fun a => a) h
  case makeFunc f a b => simp only [aop, Option.some.injEq, Prod.mk.injEq] at h; exact h.2.symm
  case fieldAddr t x f =>
    simp only [aop] at h
    split at h
    · split at h
      · exact map_st (f := fun a => a) h
      · cases h
    · cases h
  case field t x f => exact map_st (f := fun a => a) h
  case indexAddr t x i =>
    simp only [aop] at h
    split at h
    · split at h
      · exact map_st (f := fun a => a) h
      · split at h
        · exact map_st (f := fun a => a) h
        · cases h
    · cases h
  case index t x i =>
    simp only [aop] at h
    split at h
    · split at h
      · split at h
        · exact map_st (f := fun a => a) h
        · cases h
      · cases h
    · cases h
  case extract x i => exact map_st (f := fun a => a) h
  case lookup t x i ok => exact map_st (f := fun a => a) h
  case slice t x lo hi mx =>
    cases mx with
    | some _ => simp only [opPure, Bool.false_eq_true] at hp
    | none =>
      simp only [aop] at h
      split at h
      · split at h
        · exact map_st (f := fun a => a) h
        · cases h
      · cases h
theorem map_st2 {α : Type} {s s' s2 : St} {x : Option α} {f : α → AV} {r : AV} (h : x.map (fun a => (f a, s)) = some (r, s')) : x.map (fun a => (f a, s2)) = some (r, s2) := by
  obtain ⟨a, ha, h⟩ := Option.map_eq_some_iff.1 h
  simp only [Prod.mk.injEq] at h
  rw [ha, ← h.1]; rfl
theorem abuiltin_len {E : Env} {ts : List TypeId} {xs : List AV} {s s' : St} {r : AV} (h : abuiltin E s .len ts xs = some (r, s')) : ∃ t x n, ts = [t] ∧ xs = [x] ∧ alenOk E t x = true ∧ alen s x = some n ∧ r = .int .i64 (n : Int) ∧ s' = s := by
  rcases ts with _ | ⟨t, _ | ⟨_, _⟩⟩ <;> rcases xs with _ | ⟨x, _ | ⟨_, _⟩⟩ <;> simp only [abuiltin] at h <;> try (cases h; done)
  split at h
  · rename_i ho
    obtain ⟨n, hn, h⟩ := Option.map_eq_some_iff.1 h
    simp only [Prod.mk.injEq] at h
    exact ⟨t, x, n, rfl, rfl, ho, hn, h.1.symm, h.2.symm⟩
  · cases h
/-- Builtins that change nothing. -/
def bPure (b : Builtin) : Bool := match b with
  | .len => true
  | .min => true
  | .max => true
  | _ => false
theorem bPure_sound {E : Env} {b : Builtin} {ts : List TypeId} {xs : List AV} {s s' : St} {r : AV} (hp : bPure b = true) (h : abuiltin E s b ts xs = some (r, s')) : s' = s := by
  cases b <;> simp only [bPure, Bool.false_eq_true] at hp
  case len => obtain ⟨_, _, _, _, _, _, _, _, h⟩ := abuiltin_len h; exact h
  case min => simp only [abuiltin] at h; exact map_st (f := fun a => a) h
  case max => simp only [abuiltin] at h; exact map_st (f := fun a => a) h
/-- Builtins whose outcome does not hang on the state. -/
def bFree (b : Builtin) (xs : List AV) : Bool := match b with
  | .len => match xs with
    | [.str _] => true
    | [.nsl] => true
    | [.sl _] => true
    | [.nmap] => true
    | _ => false
  | .min => true
  | .max => true
  | _ => false
theorem bFree_sound {E : Env} {b : Builtin} {ts : List TypeId} {xs : List AV} {s s' : St} {r : AV} (hi : bFree b xs = true) (h : abuiltin E s b ts xs = some (r, s')) (s2 : St) : abuiltin E s2 b ts xs = some (r, s2) := by
  cases b <;> simp only [bFree, Bool.false_eq_true] at hi
  case min => simp only [abuiltin] at h ⊢; exact map_st2 (f := fun a => a) h
  case max => simp only [abuiltin] at h ⊢; exact map_st2 (f := fun a => a) h
  case len =>
    obtain ⟨t, x, n, rfl, rfl, ho, hn, rfl, rfl⟩ := abuiltin_len h
    have : alen s2 x = some n := by
      rw [← hn]
      split at hi
      · rename_i e; cases e; rfl
      · rename_i e; cases e; rfl
      · rename_i e; cases e; rfl
      · rename_i e; cases e; rfl
      · cases hi
    simp only [abuiltin, ho, this, if_true, Option.map_some]
/-- Two tables: what is pure, and the rest. -/
def FG (G : FuncId → List AV → St → Option AV) (H : Fns) : Fns := fun f xs s => match G f xs s with
  | some r => some (r, s, [])
  | none => H f xs s
/-- One operation; with it whether the state is as it was, and what a call wrote. -/
def stepC (E : Env) (G : FuncId → List AV → St → Option AV) (H : Fns) (z : Bool) (op : Op) (T : Slots) (s : St) : Option (AV × St × Bool × List Nat) :=
  match op with
  | .call c => match c.callee with
    | .builtin b => (abuiltin E s b c.argTypes.toList (c.args.toList.map (ev E T))).map fun p => (p.1, p.2, bPure b, [])
    | .value x => match ev E T x with
      | .fn (.func f) a b => match G f (a ++ c.args.toList.map (ev E T) ++ b) s with
        | some r => some (r, s, true, [])
        | none => (H f (a ++ c.args.toList.map (ev E T) ++ b) s).map fun p => (p.1, p.2.1, false, p.2.2)
      | _ => none
    | _ => none
  | .buildSlice t n ps => match z with
    | true => (zrowC s (aop E (.buildSlice t n ps) (ev E T) s)).map fun p => (p.1, p.2.1, false, p.2.2)
    | false => (aop E (.buildSlice t n ps) (ev E T) s).map fun p => (p.1, p.2, false, [])
  | op => (aop E op (ev E T) s).map fun p => (p.1, p.2, opPure op, [])
theorem stepC_sound {E : Env} {G : FuncId → List AV → St → Option AV} {H : Fns} {z : Bool} {op : Op} {T : Slots} {s s' : St} {r : AV} {b : Bool} {ids : List Nat} (h : stepC E G H z op T s = some (r, s', b, ids)) :
    xop E (FG G H) z op T s = some (r, s', ids) ∧ (b = true → s' = s) := by
  unfold stepC at h
  unfold xop
  split at h
  · rename_i c
    split at h
    · rename_i b' hb
      simp only [hb]
      obtain ⟨p, hp, h⟩ := Option.map_eq_some_iff.1 h
      simp only [Prod.mk.injEq] at h
      obtain ⟨rfl, rfl, rfl, rfl⟩ := h
      rw [hp]
      exact ⟨rfl, fun h => bPure_sound h hp⟩
    · rename_i x hx
      split at h
      · rename_i f a b' hf
        split at h
        · rename_i q hq
          simp only [Option.some.injEq, Prod.mk.injEq] at h
          obtain ⟨rfl, rfl, rfl, rfl⟩ := h
          exact ⟨by simp only [hx, hf, FG, hq], fun _ => rfl⟩
        · rename_i hq
          obtain ⟨p, hp, h⟩ := Option.map_eq_some_iff.1 h
          simp only [Prod.mk.injEq] at h
          obtain ⟨rfl, rfl, rfl, rfl⟩ := h
          exact ⟨by simp only [hx, hf, FG, hq]; exact hp, fun h => by cases h⟩
      · cases h
    · cases h
  · rename_i t n ps
    split at h
    · obtain ⟨p, hp, h⟩ := Option.map_eq_some_iff.1 h
      simp only [Prod.mk.injEq] at h
      obtain ⟨rfl, rfl, rfl, rfl⟩ := h
      exact ⟨zrowC_sound hp, fun h => by cases h⟩
    · obtain ⟨p, hp, h⟩ := Option.map_eq_some_iff.1 h
      simp only [Prod.mk.injEq] at h
      obtain ⟨rfl, rfl, rfl, rfl⟩ := h
      simp only
      rw [hp]
      exact ⟨rfl, fun h => by cases h⟩
  · rename_i h1 h2
    obtain ⟨p, hp, h⟩ := Option.map_eq_some_iff.1 h
    simp only [Prod.mk.injEq] at h
    obtain ⟨rfl, rfl, rfl, rfl⟩ := h
    refine ⟨?_, fun hb => opPure_sound hb hp⟩
    split
    · exact absurd rfl (h1 _)
    · exact absurd rfl (h2 _ _ _)
    · rw [hp]; rfl
def runOps (ok : AV → List Nat → Bool) (E : Env) (G : FuncId → List AV → St → Option AV) (H : Fns) (ops : Array Oper) : List Oper → Slots → St → Option (Slots × St)
  | [], T, s => some (T, s)
  | o :: l, T, s => match awanted ops T o with
    | some true => match stepC E G H (zOf ops.toList o) o.op T s with
      | some (r, s', _, ids) => if ok (awr o.op (ev E T)) ids then runOps ok E G H ops l (T.put o.dst r) s' else none
      | none => none
    | some false => runOps ok E G H ops l (T.put o.dst (.tup [])) s
    | none => none
theorem runOps_sound {C : Cx} {G : FuncId → List AV → St → Option AV} {H : Fns} {ok : AV → List Nat → Bool} (hW : ∀ x l, ok x l = true → WOk C.n0 C.W x l) {ops : Array Oper} : ∀ (l : List Oper) (T : Slots) (s : St) (T' : Slots) (s' : St), runOps ok C.E G H ops l T s = some (T', s') → RS C (FG G H) ops l T s fun T1 s1 => T1 = T' ∧ s1 = s' := by
  intro l
  induction l with
  | nil => intro T s T' s' h; rw [RS_nil]; simp only [runOps, Option.some.injEq, Prod.mk.injEq] at h; exact h
  | cons o l ih =>
    intro T s T' s' h
    rw [RS_cons]
    unfold runOps at h
    split at h
    · rename_i hw
      rw [hw]
      split at h
      · rename_i r s2 b ids hx
        obtain ⟨hx, _⟩ := stepC_sound hx
        split at h
        · rename_i hok
          show onV (xop C.E (FG G H) (zOf ops.toList o) o.op T s) _
          rw [hx]
          exact ⟨hW _ _ hok, ih _ _ _ _ h⟩
        · cases h
      · cases h
    · rename_i hw
      rw [hw]
      exact ih _ _ _ _ h
    · cases h
/-- A drawn region in which nothing is written ahead of the tail. -/
def runQ (ok : AV → List Nat → Bool) (E : Env) (G : FuncId → List AV → St → Option AV) (H : Fns) (ops : Array Oper) (m : Nat) : Nat → List Oper → Slots → St → Option (Slots × St)
  | _, [], T, s => some (T, s)
  | i, o :: l, T, s => match awanted ops T o with
    | some true => match stepC E G H (zOf ops.toList o) o.op T s with
      | some (r, s', b, ids) => if ok (awr o.op (ev E T)) ids && (b || decide (m ≤ i)) then runQ ok E G H ops m (i + 1) l (T.put o.dst r) s' else none
      | none => none
    | some false => runQ ok E G H ops m (i + 1) l (T.put o.dst (.tup [])) s
    | none => none
theorem runQ_sound {C : Cx} {G : FuncId → List AV → St → Option AV} {H : Fns} {ok : AV → List Nat → Bool} (hW : ∀ x l, ok x l = true → WOk C.n0 C.W x l) {ops : Array Oper} {m : Nat} : ∀ (l : List Oper) (i : Nat) (T : Slots) (s : St) (T' : Slots) (s' : St), runQ ok C.E G H ops m i l T s = some (T', s') → RQ C (FG G H) ops m i l T s fun T1 s1 => T1 = T' ∧ s1 = s' := by
  intro l
  induction l with
  | nil => intro i T s T' s' h; rw [RQ_nil]; simp only [runQ, Option.some.injEq, Prod.mk.injEq] at h; exact h
  | cons o l ih =>
    intro i T s T' s' h
    rw [RQ_cons]
    unfold runQ at h
    split at h
    · rename_i hw
      rw [hw]
      split at h
      · rename_i r s2 b ids hx
        obtain ⟨hx, hb⟩ := stepC_sound hx
        split at h
        · rename_i hc
          simp only [Bool.or_eq_true, decide_eq_true_eq, Bool.and_eq_true] at hc
          show onV (xop C.E (FG G H) (zOf ops.toList o) o.op T s) _
          rw [hx]
          exact ⟨hW _ _ hc.1, hc.2.imp hb fun h => h, ih _ _ _ _ _ h⟩
        · cases h
      · cases h
    · rename_i hw
      rw [hw]
      exact ih _ _ _ _ _ h
    · cases h
/-- The objects that a value names. -/
def ridOf (x : AV) : List Nat := match x with
  | .ptr id _ => [id]
  | .ep id _ _ => [id]
  | .ls id _ _ => [id]
  | .map id => [id]
  | _ => []
/-- Two states alike on some objects. -/
def Agr (l : List Nat) (s s2 : St) : Prop := ∀ id ∈ l, s2.get id = s.get id
theorem aload_agr {s s2 : St} {x : AV} {n : Nat} (h : Agr (ridOf x) s s2) : aload s2 x n = aload s x n := by
  cases x <;> simp [Agr, ridOf] at h <;> simp [aload, h]
theorem anilCheck_agr {s s2 : St} {x : AV} (h : Agr (ridOf x) s s2) : anilCheck s2 x = anilCheck s x := by
  cases x
  case ptr id o =>
    have hl : s2.live id = s.live id := congrArg Option.isSome (h id (List.mem_singleton.2 rfl))
    simp only [anilCheck]; rw [hl]
  case fn f a b => cases f <;> rfl
  all_goals rfl
theorem afieldAddr_agr {s s2 : St} {x : AV} {n : Nat} (h : Agr (ridOf x) s s2) : afieldAddr s2 x n = afieldAddr s x n := by
  cases x
  case ptr id o =>
    have hl : s2.live id = s.live id := congrArg Option.isSome (h id (List.mem_singleton.2 rfl))
    simp only [afieldAddr]; rw [hl]
  case ep id i j => simp only [afieldAddr]; rw [h id (List.mem_singleton.2 rfl)]
  all_goals rfl
theorem aindex_agr {s s2 : St} {x : AV} {i : Int} {n : Nat} (h : Agr (ridOf x) s s2) : aindex s2 x i n = aindex s x i n := by
  cases x <;> simp [Agr, ridOf] at h <;> simp [aindex, h]
theorem aindexArr_agr {s s2 : St} {x : AV} {i : Int} {m n : Nat} (h : Agr (ridOf x) s s2) : aindexArr s2 x i m n = aindexArr s x i m n := by
  cases x
  case ptr id o =>
    have hl : s2.live id = s.live id := congrArg Option.isSome (h id (List.mem_singleton.2 rfl))
    simp only [aindexArr]; rw [hl]
  all_goals rfl
theorem alen_agr {s s2 : St} {x : AV} (h : Agr (ridOf x) s s2) : alen s2 x = alen s x := by
  cases x <;> simp [Agr, ridOf] at h <;> simp [alen, h]
theorem alookup_agr {E : Env} {s s2 : St} {t : TypeId} {x k : AV} {ok : Bool} (h : Agr (ridOf x) s s2) : alookup E s2 t x k ok = alookup E s t x k ok := by
  cases x <;> simp [Agr, ridOf] at h <;> simp [alookup, h]
theorem aslice_agr {s s2 : St} {x : AV} {lo hi : Option Int} (h : Agr (ridOf x) s s2) : aslice s2 x lo hi = aslice s x lo hi := by
  cases x <;> simp [Agr, ridOf] at h <;> simp [aslice, h]
theorem asliceOk_agr {E : Env} {s s2 : St} {x : AV} {t : TypeId} (h : Agr (ridOf x) s s2) : asliceOk E s2 t x = asliceOk E s t x := by
  cases x <;> simp [Agr, ridOf] at h <;> simp [asliceOk, h]
/-- What a comparison reads. -/
def beqIds (a b : AV) : Option (List Nat) := match a, b with
  | .int _ _, .int _ _ => some []
  | .str _, .str _ => some []
  | .bool _, .bool _ => some []
  | .ptr id _, .np => some [id]
  | .np, .np => some []
  | .map id, .nmap => some [id]
  | .nmap, .nmap => some []
  | .ls id _ _, .nsl => some [id]
  | .nsl, .nsl => some []
  | .fn _ _ _, .nfn => some []
  | .agg _, .agg _ => some []
  | _, _ => none
theorem aeq_agr {E : Env} {s s2 : St} {t : TypeId} {a b : AV} {l : List Nat} (hl : beqIds a b = some l) (h : Agr l s s2) : aeq E s2 t a b = aeq E s t a b := by
  unfold beqIds at hl
  split at hl
  all_goals first
    | (cases hl
       simp only [Agr, List.mem_singleton, forall_eq, List.not_mem_nil] at h
       unfold aeq St.live
       cases E.ti t with
       | none => rfl
       | some x =>
         simp only
         cases x.desc <;> first | rfl | simp only [h])
    | cases hl
theorem abinop_agr {E : Env} {s s2 : St} {op : BinOp} {t : TypeId} {cx cy : Bool} {a b : AV} {l : List Nat} (hl : beqIds a b = some l) (h : Agr l s s2) : abinop E s2 op t cx cy a b = abinop E s op t cx cy a b := by
  have := aeq_agr (E := E) (t := t) hl h
  unfold beqIds at hl
  split at hl <;> first | (simp only [abinop, this]; done) | rfl | cases hl
/-- The objects that an operation reads, if it changes nothing. -/
def reads (op : Op) (ρ : Operand → AV) : Option (List Nat) := match op with
  | .move _ | .assign _ | .pick _ _ _ | .build _ _ | .unOp _ _ _ | .makeFunc _ _ _ | .extract _ _ | .field _ _ _ => some []
  | .binOp _ _ x y _ => beqIds (ρ x) (ρ y)
  | .load _ a => some (ridOf (ρ a))
  | .fieldAddr _ a _ => some (ridOf (ρ a))
  | .indexAddr _ a _ => some (ridOf (ρ a))
  | .nilCheck a => some (ridOf (ρ a))
  | .lookup _ x _ _ => some (ridOf (ρ x))
  | .slice _ x _ _ none => some (ridOf (ρ x))
  | .index _ _ _ => some []
  | .call c => match c.callee with
    | .builtin .len => match c.args.toList with
      | [x] => some (ridOf (ρ x))
      | _ => none
    | .builtin .min => some []
    | .builtin .max => some []
    | _ => none
  | _ => none
theorem reads_sound {E : Env} {op : Op} {ρ : Operand → AV} {s s' s2 : St} {r : AV} {l : List Nat} (hi : reads op ρ = some l) (h : aop E op ρ s = some (r, s')) (ha : Agr l s s2) : aop E op ρ s2 = some (r, s2) := by
  cases op <;> simp only [reads, reduceCtorEq] at hi
  case move x => simp only [aop, Option.some.injEq, Prod.mk.injEq] at h ⊢; exact ⟨h.1, trivial⟩
  case assign x => simp only [aop, Option.some.injEq, Prod.mk.injEq] at h ⊢; exact ⟨h.1, trivial⟩
  case pick c a b =>
    simp only [aop] at h ⊢
    split at h
    · simp only [Option.some.injEq, Prod.mk.injEq] at h ⊢; exact ⟨h.1, trivial⟩
    · cases h
  case build t ps => exact map_st2 (f := fun a => a) h
  case unOp op t x => exact map_st2 (f := fun a => a) h
  case makeFunc f a b => simp only [aop, Option.some.injEq, Prod.mk.injEq] at h ⊢; exact ⟨h.1, trivial⟩
  case extract x i => exact map_st2 (f := fun a => a) h
  case field t x f => exact map_st2 (f := fun a => a) h
  case index t x i =>
    simp only [aop] at h ⊢
    split at h
    · split at h
      · split at h
        · rename_i h1
          rw [if_pos h1]
          exact map_st2 (f := fun a => a) h
        · cases h
      · cases h
    · cases h
  case binOp op t x y u =>
    simp only [aop] at h ⊢
    rw [abinop_agr hi ha]
    exact map_st2 (f := fun a => a) h
  case load t a =>
    simp only [Option.some.injEq] at hi
    subst hi
    simp only [aop] at h ⊢
    split at h
    · rw [aload_agr ha]
      split at h
      · exact map_st2 (f := fun a => a) h
      · cases h
    · cases h
  case fieldAddr t x f =>
    simp only [Option.some.injEq] at hi
    subst hi
    simp only [aop] at h ⊢
    split at h
    · split at h
      · rename_i hz
        rw [if_pos hz, afieldAddr_agr ha]
        exact map_st2 (f := fun a => a) h
      · cases h
    · cases h
  case indexAddr t x i =>
    simp only [Option.some.injEq] at hi
    subst hi
    simp only [aop] at h ⊢
    split at h
    · split at h
      · rw [aindex_agr ha]
        exact map_st2 (f := fun a => a) h
      · split at h
        · rw [aindexArr_agr ha]
          exact map_st2 (f := fun a => a) h
        · cases h
    · cases h
  case nilCheck x =>
    simp only [Option.some.injEq] at hi
    subst hi
    simp only [aop] at h ⊢
    rw [anilCheck_agr ha]
    exact map_st2 (f := fun a => a) h
  case lookup t x i ok =>
    simp only [Option.some.injEq] at hi
    subst hi
    simp only [aop] at h ⊢
    rw [alookup_agr ha]
    exact map_st2 (f := fun a => a) h
  case slice t x lo hi' mx =>
    cases mx with
    | some _ => simp at hi
    | none =>
      simp only [Option.some.injEq] at hi
      subst hi
      simp only [aop] at h ⊢
      split at h
      · rw [asliceOk_agr ha, aslice_agr ha]
        split at h
        · rename_i h1
          rw [if_pos h1]
          exact map_st2 (f := fun a => a) h
        · cases h
      · cases h
  case call c =>
    split at hi
    · rename_i hc
      split at hi
      · rename_i x hx
        simp only [Option.some.injEq] at hi
        subst hi
        simp only [aop, hc, hx, List.map_cons, List.map_nil] at h ⊢
        obtain ⟨t, y, n, ht, hy, ho, hn, rfl, rfl⟩ := abuiltin_len h
        simp only [List.cons.injEq, and_true] at hy
        subst hy
        rw [ht]
        simp only [abuiltin, ho, if_true, alen_agr ha, hn, Option.map_some]
      · cases hi
    · rename_i hc
      simp only [aop, hc, abuiltin] at h ⊢
      exact map_st2 (f := fun a => a) h
    · rename_i hc
      simp only [aop, hc, abuiltin] at h ⊢
      exact map_st2 (f := fun a => a) h
    · cases hi
theorem stepC_free {E : Env} {G : FuncId → List AV → St → Option AV} {H : Fns} {z : Bool} {op : Op} {T : Slots} {s s' : St} {r : AV} {b : Bool} {ids l : List Nat} (h : stepC E G H z op T s = some (r, s', b, ids))
    (hi : reads op (ev E T) = some l) (s2 : St) (ha : Agr l s s2) : xop E (FG G H) z op T s2 = some (r, s2, []) := by
  have ha1 : aop E op (ev E T) s = some (r, s') := by
    unfold stepC at h
    split at h
    · split at h
      · rename_i c b' hb
        obtain ⟨p, hp, h⟩ := Option.map_eq_some_iff.1 h
        simp only [Prod.mk.injEq] at h
        obtain ⟨rfl, rfl, _⟩ := h
        simp only [aop, hb]; exact hp
      · rename_i hb; simp [reads, hb] at hi
      · rename_i c h1 h2
        simp only [reads] at hi
        split at hi
        · rename_i hb; exact absurd hb (h1 _)
        · rename_i hb; exact absurd hb (h1 _)
        · rename_i hb; exact absurd hb (h1 _)
        · cases hi
    · simp [reads] at hi
    · obtain ⟨p, hp, h⟩ := Option.map_eq_some_iff.1 h
      simp only [Prod.mk.injEq] at h
      obtain ⟨rfl, rfl, _⟩ := h
      exact hp
  have h2 := reads_sound hi ha1 ha
  unfold xop
  split
  · rename_i c
    split
    · rename_i b' hb
      simp only [aop, hb] at h2
      rw [h2]; rfl
    · rename_i x hb; simp [reads, hb] at hi
    · rename_i h1 h3
      simp only [reads] at hi
      split at hi
      · rename_i hb; exact absurd hb (h1 _)
      · rename_i hb; exact absurd hb (h1 _)
      · rename_i hb; exact absurd hb (h1 _)
      · cases hi
  · simp [reads] at hi
  · rw [h2]; rfl
/-! equality of objects, worked out -/
def leqB (f : AV → AV → Bool) : List AV → List AV → Bool
  | [], [] => true
  | x :: l, y :: k => f x y && leqB f l k
  | _, _ => false
def lleqB (f : AV → AV → Bool) : List (List AV) → List (List AV) → Bool
  | [], [] => true
  | x :: l, y :: k => leqB f x y && lleqB f l k
  | _, _ => false
theorem leqB_sound {f : AV → AV → Bool} (hf : ∀ x y, f x y = true → x = y) : ∀ l k, leqB f l k = true → l = k
  | [], [], _ => rfl
  | x :: l, y :: k, h => by
    simp only [leqB, Bool.and_eq_true] at h
    rw [hf _ _ h.1, leqB_sound hf _ _ h.2]
  | [], _ :: _, h => by cases h
  | _ :: _, [], h => by cases h
theorem lleqB_sound {f : AV → AV → Bool} (hf : ∀ x y, f x y = true → x = y) : ∀ l k, lleqB f l k = true → l = k
  | [], [], _ => rfl
  | x :: l, y :: k, h => by
    simp only [lleqB, Bool.and_eq_true] at h
    rw [leqB_sound hf _ _ h.1, lleqB_sound hf _ _ h.2]
  | [], _ :: _, h => by cases h
  | _ :: _, [], h => by cases h
def aveqB : Nat → AV → AV → Bool
  | 0, _, _ => false
  | d + 1, x, y => match x, y with
    | .junk, .junk => true
    | .bool a, .bool b => a == b
    | .int k a, .int j b => decide (k = j) && decide (a = b)
    | .str a, .str b => decide (a = b)
    | .agg a, .agg b => leqB (aveqB d) a b
    | .tup a, .tup b => leqB (aveqB d) a b
    | .sl a, .sl b => lleqB (aveqB d) a b
    | .nsl, .nsl => true
    | .rp a, .rp b => leqB (aveqB d) a b
    | .np, .np => true
    | .ptr a b, .ptr a' b' => decide (a = a') && decide (b = b')
    | .ep a b c, .ep a' b' c' => decide (a = a') && decide (b = b') && decide (c = c')
    | .ls a b c, .ls a' b' c' => decide (a = a') && decide (b = b') && decide (c = c')
    | .map a, .map b => decide (a = b)
    | .nmap, .nmap => true
    | .fn (.func f) a b, .fn (.func g) a' b' => decide (f = g) && leqB (aveqB d) a a' && leqB (aveqB d) b b'
    | .nfn, .nfn => true
    | .nif, .nif => true
    | .it a, .it b => decide (a = b)
    | _, _ => false
theorem aveqB_sound : ∀ d x y, aveqB d x y = true → x = y := by
  intro d
  induction d with
  | zero => intro x y h; cases h
  | succ d ih =>
    intro x y h
    unfold aveqB at h
    split at h
    all_goals first
      | rfl
      | (simp only [Bool.and_eq_true, decide_eq_true_eq, beq_iff_eq] at h; simp only [h]; done)
      | rw [leqB_sound ih _ _ h]
      | rw [lleqB_sound ih _ _ h]
      | (simp only [Bool.and_eq_true, decide_eq_true_eq] at h; rw [h.1.1, leqB_sound ih _ _ h.1.2, leqB_sound ih _ _ h.2])
      | cases h
def obeq (x y : AObj) : Bool := match x, y with
  | .var t a, .var u b => decide (t = u) && leqB (aveqB 30) a b
  | .row z (w, k) a, .row z' (w', k') b => decide (z = z') && (w == w') && decide (k = k') && lleqB (aveqB 30) a b
  | .map a, .map b => leqB (aveqB 30) (a.map (·.1)) (b.map (·.1)) && leqB (aveqB 30) (a.map (·.2)) (b.map (·.2))
  | .siter a p, .siter b q => decide (a = b) && decide (p = q)
  | _, _ => false
theorem zip_ext : ∀ {a b : List (AV × AV)}, a.map (·.1) = b.map (·.1) → a.map (·.2) = b.map (·.2) → a = b
  | [], [], _, _ => rfl
  | x :: a, y :: b, h1, h2 => by
    simp only [List.map_cons, List.cons.injEq] at h1 h2
    rw [zip_ext h1.2 h2.2, Prod.ext h1.1 h2.1]
  | [], _ :: _, h, _ => by cases h
  | _ :: _, [], h, _ => by cases h
theorem obeq_sound {x y : AObj} (h : obeq x y = true) : x = y := by
  unfold obeq at h
  split at h
  · simp only [Bool.and_eq_true, decide_eq_true_eq] at h
    rw [h.1, leqB_sound (aveqB_sound 30) _ _ h.2]
  · simp only [Bool.and_eq_true, decide_eq_true_eq, beq_iff_eq] at h
    rw [h.1.1.1, h.1.1.2, h.1.2, lleqB_sound (aveqB_sound 30) _ _ h.2]
  · simp only [Bool.and_eq_true] at h
    rw [zip_ext (leqB_sound (aveqB_sound 30) _ _ h.1) (leqB_sound (aveqB_sound 30) _ _ h.2)]
  · simp only [Bool.and_eq_true, decide_eq_true_eq] at h
    rw [h.1, h.2]
  · cases h
def agrB (l : List Nat) (s s2 : St) : Bool := l.all fun id => match s.get id, s2.get id with
  | some x, some y => obeq x y
  | _, _ => false
theorem agrB_sound {l : List Nat} {s s2 : St} (h : agrB l s s2 = true) : Agr l s s2 := fun id hid => by
  have := List.all_eq_true.1 h id hid
  split at this
  · rename_i x y hx hy
    rw [hx, hy, obeq_sound this]
  · cases this
def subL (l k : List Nat) : Bool := l.all fun i => k.any fun j => decide (i = j)
theorem subL_sound {l k : List Nat} (h : subL l k = true) : ∀ i ∈ l, i ∈ k := fun i hi => by
  obtain ⟨j, hj, e⟩ := List.any_eq_true.1 (List.all_eq_true.1 h i hi)
  rw [of_decide_eq_true e]; exact hj
/-- What an operation ahead of the tail, that no order binds to the writers, asks. -/
def freeOk (L : List Nat) (op : Op) (ρ : Operand → AV) : Bool := match reads op ρ with
  | some l => subL l L
  | none => false
/-- The objects that are read in a region (those that were there). -/
def colW (E : Env) (G : FuncId → List AV → St → Option AV) (H : Fns) (ops : Array Oper) (m n0 : Nat) : Nat → List Oper → Slots → St → List Nat
  | _, [], T, s => []
  | i, o :: l, T, s => match decide (m ≤ i) with
    | true => []
    | false => match awanted ops T o with
      | some true => match stepC E G H (zOf ops.toList o) o.op T s with
        | some (r, s', _, _) =>
          let k := colW E G H ops m n0 (i + 1) l (T.put o.dst r) s'
          match freeB 1 ops m i with
          | true => match reads o.op (ev E T) with
            | some (id :: _) => if id < n0 then id :: k else k
            | _ => k
          | false => k
        | none => []
      | some false => colW E G H ops m n0 (i + 1) l (T.put o.dst (.tup [])) s
      | none => []
/-- A drawn region with writers ahead of the tail. -/
def runW (ok : AV → List Nat → Bool) (E : Env) (G : FuncId → List AV → St → Option AV) (H : Fns) (ops : Array Oper) (m : Nat) (L : List Nat) (s0 : St) : Nat → List Oper → Slots → St → Option (Slots × St)
  | _, [], T, s => some (T, s)
  | i, o :: l, T, s => match awanted ops T o with
    | some true => match stepC E G H (zOf ops.toList o) o.op T s with
      | some (r, s', b, ids) => match ok (awr o.op (ev E T)) ids && (decide (m ≤ i) || ((wB 1 o || b) && (!freeB 1 ops m i || freeOk L o.op (ev E T)) && (b || agrB L s0 s'))) with
        | true => runW ok E G H ops m L s0 (i + 1) l (T.put o.dst r) s'
        | false => none
      | none => none
    | some false => runW ok E G H ops m L s0 (i + 1) l (T.put o.dst (.tup [])) s
    | none => none
theorem runW_sound {C : Cx} {G : FuncId → List AV → St → Option AV} {H : Fns} {ok : AV → List Nat → Bool} (hW : ∀ x l, ok x l = true → WOk C.n0 C.W x l) {ops : Array Oper} {m : Nat} {L : List Nat} {s0 : St} : ∀ (l : List Oper) (i : Nat) (T : Slots) (s : St) (T' : Slots) (s' : St), (m < i ∨ Agr L s0 s) → runW ok C.E G H ops m L s0 i l T s = some (T', s') →
    RW 1 C (FG G H) ops m (Agr L s0) i l T s fun T1 s1 => T1 = T' ∧ s1 = s' := by
  intro l
  induction l with
  | nil => intro i T s T' s' hP h; rw [RW_nil]; simp only [runW, Option.some.injEq, Prod.mk.injEq] at h; exact ⟨hP, h⟩
  | cons o l ih =>
    intro i T s T' s' hP h
    rw [RW_cons]
    refine ⟨hP, ?_⟩
    unfold runW at h
    split at h
    · rename_i hw
      rw [hw]
      split at h
      · rename_i r s2 b ids hx
        split at h
        · rename_i hc
          simp only [Bool.or_eq_true, decide_eq_true_eq, Bool.and_eq_true, Bool.not_eq_true'] at hc
          obtain ⟨hok, hc⟩ := hc
          obtain ⟨hx2, hb⟩ := stepC_sound hx
          by_cases hfr : m ≤ i
          · show onV (xop C.E (FG G H) (zOf ops.toList o) o.op T s) _
            rw [hx2]
            exact ⟨hW _ _ hok, .inl hfr, .inl hfr, ih _ _ _ _ _ (.inl (by omega)) h⟩
          · obtain ⟨⟨h1, h2⟩, h3⟩ := hc.resolve_left hfr
            have hA := hP.resolve_left (by omega)
            have hA2 : m < i + 1 ∨ Agr L s0 s2 := .inr (h3.elim (fun h => by rw [hb h]; exact hA) agrB_sound)
            rcases h2 with h2 | h2
            · show onV (xop C.E (FG G H) (zOf ops.toList o) o.op T s) _
              rw [hx2]
              exact ⟨hW _ _ hok, .inr (h1.imp (fun h => h) hb), .inr (.inl h2), ih _ _ _ _ _ hA2 h⟩
            · unfold freeOk at h2
              split at h2
              · rename_i lr hlr
                have hfree : ∀ s3, Agr L s0 s3 → xop C.E (FG G H) (zOf ops.toList o) o.op T s3 = some (r, s3, []) := fun s3 h3 =>
                  stepC_free hx hlr s3 fun id hid => by
                    have := subL_sound h2 id hid
                    rw [h3 id this, hA id this]
                have hs := hfree s hA
                rw [hs] at hx2
                simp only [Option.some.injEq, Prod.mk.injEq, true_and] at hx2
                obtain ⟨rfl, rfl⟩ := hx2
                show onV (xop C.E (FG G H) (zOf ops.toList o) o.op T s) _
                rw [hs]
                exact ⟨hW _ _ hok, .inr (.inr rfl), .inr (.inr hfree), ih _ _ _ _ _ hA2 h⟩
              · cases h2
        · cases h
      · cases h
    · rename_i hw
      rw [hw]
      exact ih _ _ _ _ _ (hP.imp (fun h => by omega) fun h => h) h
    · cases h
theorem WP_unroll {C : Cx} {F : Fns} {c : Code} {Q : Exit → Slots → St → Prop} {T : Slots} {s : St} (h : WP C F c (tQ (fun T s => WP C F (.loop c) Q T s) Q) T s) : WP C F (.loop c) Q T s := by
  obtain ⟨e, T1, s1, h1, h2⟩ := WP_pin _ _ _ _ h
  replace h2 := h2 C.μ C.s C.w
  change WP C F c _ T s at h2
  by_cases he : e = .normal
  · subst he
    rw [tQ_n] at h1
    rw [WP_loop_def] at h1 ⊢
    obtain ⟨J, m, hJ, h4⟩ := h1
    refine ⟨fun k T' s' => (k = m + 1 ∧ T' = T ∧ s' = s) ∨ (k ≤ m ∧ J k T' s'), m + 1, .inl ⟨rfl, rfl, rfl⟩, fun k T' s' hk => ?_⟩
    rcases hk with ⟨rfl, rfl, rfl⟩ | ⟨hk, hJk⟩
    · refine WP_mono _ _ _ _ _ (fun e' T s h => ?_) h2
      obtain ⟨rfl, rfl, rfl⟩ := h
      rw [tQ_n]
      exact ⟨m, by omega, .inr ⟨Nat.le_refl _, hJ⟩⟩
    · refine WP_mono _ _ _ _ _ (tQ_mono (fun T s h => ?_) fun _ _ _ h => h) (h4 k _ _ hJk)
      obtain ⟨n', h5, h6⟩ := h
      exact ⟨n', h5, .inr ⟨by omega, h6⟩⟩
  · rw [tQ_o he] at h1
    rw [WP_loop_def]
    refine ⟨fun k T' s' => k = 0 ∧ T' = T ∧ s' = s, 0, ⟨rfl, rfl, rfl⟩, fun k T' s' hk => ?_⟩
    obtain ⟨rfl, rfl, rfl⟩ := hk
    refine WP_mono _ _ _ _ _ (fun e' T s h => ?_) h2
    obtain ⟨rfl, rfl, rfl⟩ := h
    rw [tQ_o he]; exact h1
def run (ok : AV → List Nat → Bool) (E : Env) (G : FuncId → List AV → St → Option AV) (H : Fns) : Nat → Code → Slots → St → Option (Exit × Slots × St)
  | 0, _, _, _ => none
  | n + 1, c, T, s => match c with
    | .skip => some (.normal, T, s)
    | .region _ ops false => (runOps ok E G H ops ops.toList T s).map fun p => (.normal, p.1, p.2)
    | .region _ ops true => match runQ ok E G H ops (tailAt ops) 0 ops.toList T s with
      | some p => some (.normal, p.1, p.2)
      | none => if wrOk 1 ops (tailAt ops) then (runW ok E G H ops (tailAt ops) (colW E G H ops (tailAt ops) s.nx 0 ops.toList T s) s 0 ops.toList T s).map fun p => (.normal, p.1, p.2) else none
    | .seq x y => match run ok E G H n x T s with
      | some (.normal, T1, s1) => run ok E G H n y T1 s1
      | r => r
    | .cond c x y => match ev E T c with
      | .bool true => run ok E G H n x T s
      | .bool false => run ok E G H n y T s
      | _ => none
    | .block id c => match run ok E G H n c T s with
      | some (.exit j, T1, s1) => if j = id then some (.normal, T1, s1) else some (.exit j, T1, s1)
      | r => r
    | .loop c => match run ok E G H n c T s with
      | some (.normal, T1, s1) => run ok E G H n (.loop c) T1 s1
      | r => r
    | .exit id => some (.exit id, T, s)
    | .label _ => some (.normal, T, s)
    | .ret => some (.ret, T, s)
    | _ => none
theorem run_sound {C : Cx} {G : FuncId → List AV → St → Option AV} {H : Fns} {ok : AV → List Nat → Bool} (hW : ∀ x l, ok x l = true → WOk C.n0 C.W x l) : ∀ (n : Nat) (c : Code) (T : Slots) (s : St) (e : Exit) (T' : Slots) (s' : St), run ok C.E G H n c T s = some (e, T', s') →
    WP C (FG G H) c (fun e1 T1 s1 => e1 = e ∧ T1 = T' ∧ s1 = s') T s := by
  intro n
  induction n with
  | zero => intro c T s e T' s' h; cases h
  | succ n ih =>
    intro c T s e T' s' h
    unfold run at h
    split at h
    · simp only [Option.some.injEq, Prod.mk.injEq] at h; rw [WP_skip]; exact ⟨h.1.symm ▸ rfl, h.2.1, h.2.2⟩
    · obtain ⟨p, hp, h⟩ := Option.map_eq_some_iff.1 h
      simp only [Prod.mk.injEq] at h
      obtain ⟨rfl, rfl, rfl⟩ := h
      rw [WP_regf]
      exact RS_mono (fun T s h => ⟨rfl, h⟩) _ _ _ (runOps_sound hW _ _ _ _ _ hp)
    · split at h
      · rename_i p hp
        simp only [Option.some.injEq, Prod.mk.injEq] at h
        obtain ⟨rfl, rfl, rfl⟩ := h
        rw [WP_regt]
        exact .inl (RQ_mono (fun T s h => ⟨rfl, h⟩) _ _ _ _ (runQ_sound hW _ _ _ _ _ _ hp))
      · split at h
        · rename_i hw
          obtain ⟨p, hp, h⟩ := Option.map_eq_some_iff.1 h
          simp only [Prod.mk.injEq] at h
          obtain ⟨rfl, rfl, rfl⟩ := h
          rw [WP_regt]
          exact .inr ⟨1, hw, _, RW_mono (fun T s h => ⟨rfl, h⟩) _ _ _ _ (runW_sound hW _ _ _ _ _ _ (.inr fun _ _ => rfl) hp)⟩
        · cases h
    · rename_i x y
      rw [WP_seq]
      refine ⟨T, s, .refl T s, ?_⟩
      split at h
      · rename_i T1 s1 hx
        refine WP_mono _ _ _ _ _ (fun e' T s h' => ?_) (ih _ _ _ _ _ _ hx)
        obtain ⟨rfl, rfl, rfl⟩ := h'
        rw [tQ_n]
        exact ih _ _ _ _ _ _ h
      · rename_i hx
        refine WP_mono _ _ _ _ _ (fun e' T s h' => ?_) (ih _ _ _ _ _ _ h)
        obtain ⟨rfl, rfl, rfl⟩ := h'
        have : e' ≠ .normal := fun he => hx _ _ (by rw [h, he])
        rw [tQ_o this]
        exact ⟨rfl, rfl, rfl⟩
    · rename_i c x y
      rw [WP_cond]
      split at h
      · rename_i hc
        show onB (ev C.E T c) _ _
        rw [hc]; exact ih _ _ _ _ _ _ h
      · rename_i hc
        show onB (ev C.E T c) _ _
        rw [hc]; exact ih _ _ _ _ _ _ h
      · cases h
    · rename_i id c
      rw [WP_block]
      split at h
      · rename_i j T1 s1 hx
        refine WP_mono _ _ _ _ _ (fun e' T s h' => ?_) (ih _ _ _ _ _ _ hx)
        obtain ⟨rfl, rfl, rfl⟩ := h'
        split at h
        · rename_i hj
          subst hj
          simp only [Option.some.injEq, Prod.mk.injEq] at h
          rw [bQ_e]
          exact ⟨h.1, h.2.1, h.2.2⟩
        · rename_i hj
          simp only [Option.some.injEq, Prod.mk.injEq] at h
          rw [bQ_x hj]
          exact ⟨h.1, h.2.1, h.2.2⟩
      · rename_i hx
        refine WP_mono _ _ _ _ _ (fun e' T s h' => ?_) (ih _ _ _ _ _ _ h)
        obtain ⟨rfl, rfl, rfl⟩ := h'
        have : e' ≠ .exit id := fun he => hx _ _ _ (by rw [h, he])
        rw [bQ_o this]
        exact ⟨rfl, rfl, rfl⟩
    · rename_i c
      refine WP_unroll ?_
      split at h
      · rename_i T1 s1 hx
        refine WP_mono _ _ _ _ _ (fun e' T s h' => ?_) (ih _ _ _ _ _ _ hx)
        obtain ⟨rfl, rfl, rfl⟩ := h'
        rw [tQ_n]
        exact ih _ _ _ _ _ _ h
      · rename_i hx
        refine WP_mono _ _ _ _ _ (fun e' T s h' => ?_) (ih _ _ _ _ _ _ h)
        obtain ⟨rfl, rfl, rfl⟩ := h'
        have : e' ≠ .normal := fun he => hx _ _ (by rw [h, he])
        rw [tQ_o this]
        exact ⟨rfl, rfl, rfl⟩
    · simp only [Option.some.injEq, Prod.mk.injEq] at h; rw [WP_exit]; exact ⟨h.1, h.2.1, h.2.2⟩
    · simp only [Option.some.injEq, Prod.mk.injEq] at h; rw [WP_label]; exact ⟨h.1, h.2.1, h.2.2⟩
    · simp only [Option.some.injEq, Prod.mk.injEq] at h; rw [WP_ret]; exact ⟨h.1, h.2.1, h.2.2⟩
    · cases h
end Go.Am
namespace Go.Am
/-! ### functions, run -/
def frzL (f : AV → Option AV) : List AV → Option (List AV)
  | [] => some []
  | x :: l => match f x, frzL f l with
    | some y, some k => some (y :: k)
    | _, _ => none
def frzLL (f : AV → Option AV) : List (List AV) → Option (List (List AV))
  | [] => some []
  | x :: l => match frzL f x, frzLL f l with
    | some y, some k => some (y :: k)
    | _, _ => none
theorem frzL_spec {f : AV → Option AV} : ∀ {l k : List AV}, frzL f l = some k → k.length = l.length ∧ ∀ (i : Nat) x y, l[i]? = some x → k[i]? = some y → f x = some y
  | [], k, h => by cases h; exact ⟨rfl, fun i x y hx => by simp at hx⟩
  | x :: l, k, h => by
    unfold frzL at h
    split at h
    · rename_i y k' h1 h2
      cases h
      obtain ⟨h3, h4⟩ := frzL_spec h2
      refine ⟨by simp [h3], fun i a b ha hb => ?_⟩
      cases i with
      | zero => simp at ha hb; subst ha; subst hb; exact h1
      | succ i => simp at ha hb; exact h4 i a b ha hb
    · cases h
theorem frzLL_spec {f : AV → Option AV} : ∀ {l k : List (List AV)}, frzLL f l = some k → k.length = l.length ∧ ∀ (i : Nat) x y, l[i]? = some x → k[i]? = some y → frzL f x = some y
  | [], k, h => by cases h; exact ⟨rfl, fun i x y hx => by simp at hx⟩
  | x :: l, k, h => by
    unfold frzLL at h
    split at h
    · rename_i y k' h1 h2
      cases h
      obtain ⟨h3, h4⟩ := frzLL_spec h2
      refine ⟨by simp [h3], fun i a b ha hb => ?_⟩
      cases i with
      | zero => simp at ha hb; subst ha; subst hb; exact h1
      | succ i => simp at ha hb; exact h4 i a b ha hb
    · cases h
/-- A result as data. -/
def freeze (s1 : St) (n : Nat) : Nat → AV → Option AV
  | 0, _ => none
  | d + 1, x => match x with
    | .nsl => some (.sl [])
    | .ls id 0 m => match s1.get id with
      | some (.row sz _ es) => if decide (n ≤ id) && decide (m = es.length) && es.all (fun e => decide (e.length = sz)) then (frzLL (freeze s1 n d) es).map .sl else none
      | _ => none
    | .agg cs => (frzL (freeze s1 n d) cs).map .agg
    | .tup cs => (frzL (freeze s1 n d) cs).map .tup
    | x => if blw n 40 x then some x else none
theorem freeze_sound {s1 : St} {n : Nat} : ∀ {d : Nat} {x y : AV}, freeze s1 n d x = some y → Frz s1 n x y := by
  intro d
  induction d with
  | zero => intro x y h; cases h
  | succ d ih =>
    intro x y h
    unfold freeze at h
    split at h
    · cases h; exact .nil
    · rename_i id m
      split at h
      · rename_i sz k es hs
        split at h
        · rename_i hc
          simp only [Bool.and_eq_true, decide_eq_true_eq, List.all_eq_true] at hc
          obtain ⟨⟨h1, h2⟩, h3⟩ := hc
          obtain ⟨es', hes, rfl⟩ := Option.map_eq_some_iff.1 h
          obtain ⟨hl, hp⟩ := frzLL_spec hes
          subst h2
          have get : ∀ i e', es'[i]? = some e' → ∃ e, es[i]? = some e ∧ frzL (freeze s1 n d) e = some e' := fun i e' he' => by
            have hi : i < es.length := by rw [← hl]; exact (List.getElem?_eq_some_iff.1 he').1
            exact ⟨es[i], List.getElem?_eq_getElem hi, hp i _ _ (List.getElem?_eq_getElem hi) he'⟩
          refine .row id sz k es es' hs h1 hl (fun e he => ?_) (fun i j y hy => ?_) (fun i j x y hx hy => ?_)
          · obtain ⟨i, hi, rfl⟩ := List.getElem_of_mem he
            obtain ⟨e, he1, he2⟩ := get i _ (List.getElem?_eq_getElem hi)
            rw [(frzL_spec he2).1]
            exact h3 e (List.mem_of_getElem? he1)
          · simp only [get2] at hy ⊢
            obtain ⟨e', he', hy⟩ := Option.bind_eq_some_iff.1 hy
            obtain ⟨e, he1, he2⟩ := get i _ he'
            have hj : j < e.length := by rw [← (frzL_spec he2).1]; exact (List.getElem?_eq_some_iff.1 hy).1
            exact ⟨e[j], by rw [he1]; simp [hj]⟩
          · simp only [get2] at hx hy
            obtain ⟨e', he', hy⟩ := Option.bind_eq_some_iff.1 hy
            obtain ⟨e0, he0, hx⟩ := Option.bind_eq_some_iff.1 hx
            obtain ⟨e, he1, he2⟩ := get i _ he'
            rw [he1] at he0
            obtain rfl := Option.some.inj he0
            exact ih ((frzL_spec he2).2 j x y hx hy)
        · cases h
      · cases h
    · rename_i cs
      obtain ⟨ds, hd, rfl⟩ := Option.map_eq_some_iff.1 h
      obtain ⟨hl, hp⟩ := frzL_spec hd
      exact .agg _ _ hl.symm fun i x y hx hy => ih (hp i x y hx hy)
    · rename_i cs
      obtain ⟨ds, hd, rfl⟩ := Option.map_eq_some_iff.1 h
      obtain ⟨hl, hp⟩ := frzL_spec hd
      exact .tup _ _ hl.symm fun i x y hx hy => ih (hp i x y hx hy)
    · split at h
      · rename_i hb
        cases h
        exact .same _ (blw_sound hb)
      · cases h
def mayB (n0 : Nat) : AV → Bool
  | .ptr id _ | .ep id _ _ | .ls id _ _ | .map id | .it id => decide (n0 ≤ id)
  | _ => true
def okN (n0 : Nat) (x : AV) (l : List Nat) : Bool := mayB n0 x && l.all fun i => decide (n0 ≤ i)
theorem okN_sound {n0 : Nat} {W : Nat → Prop} {x : AV} {l : List Nat} (h : okN n0 x l = true) : WOk n0 W x l := by
  simp only [okN, Bool.and_eq_true, List.all_eq_true, decide_eq_true_eq] at h
  refine ⟨?_, fun id hi => .inr (h.2 id hi)⟩
  have h1 := h.1
  cases x <;> simp only [mayB, decide_eq_true_eq] at h1 <;> first | exact .inr h1 | exact trivial
section
variable {E : Env} {G : FuncId → List AV → St → Option AV} {H : Fns}
/-- A function of data, run. -/
theorem FT.runP {f : FuncId} {fn : Func} {c : Code} {args : List AV} {r r1 : AV} {s s1 : St} {n : Nat} {e : Exit} {T1 : Slots} (hF : FOk E (FG G H)) (hm : E.P.follows .mixedOrders = true) (hf : E.P.funcs[f]? = some fn)
    (hname : (fn.name == "runtime.NumGoroutine") = false) (hb : fn.body = some c) (hl : args.length ≤ fn.ntmps) (hs : statOk fn.ntmps c = true)
    (hrun : run (okN s.nx) E G H n c (T0 0 args) s = some (e, T1, s1)) (he : e = .normal ∨ e = .ret) (hr : ares E T1 s1 fn.results = some r1) (hz : freeze s1 s.nx 40 r1 = some r) : FT E NoW f args s r s :=
  FT.data hF hm hf hname hb rfl rfl hl hs fun μ w => WP_mono _ _ _ _ _ (fun e' T' s' h => by
    obtain ⟨rfl, rfl, rfl⟩ := h
    exact ⟨he, r1, hr, freeze_sound hz⟩) (run_sound (C := ⟨E, s.nx, NoW, fn.ntmps, μ, s, w⟩) (fun x l h => okN_sound h) n c _ s e T1 s1 hrun)
def oblw (n : Nat) : AObj → Bool
  | .var _ cs => cs.all (blw n 40)
  | .row _ _ es => es.all fun e => e.all (blw n 40)
  | .map es => es.all fun p => blw n 40 p.1 && blw n 40 p.2
  | .siter _ _ => true
theorem oblw_sound {n : Nat} {o : AObj} (h : oblw n o = true) : OBelow n o := by
  cases o <;> simp only [oblw, List.all_eq_true, Bool.and_eq_true] at h
  case var ty cs => exact .var _ _ fun i x hx => blw_sound (h x (List.mem_of_getElem? hx))
  case row sz k es => exact obelow_row.2 fun e he x hx => blw_sound (h e he x hx)
  case map es => exact .map _ fun i x hx => ⟨blw_sound (h x (List.mem_of_getElem? hx)).1, blw_sound (h x (List.mem_of_getElem? hx)).2⟩
  case siter a b => exact .siter _ _
def closedC (s : St) : Bool := (List.range s.nx).all fun id => match s.get id with
  | some o => oblw s.nx o
  | none => true
/-- A function that may write anything, run. -/
theorem FT.runE {f : FuncId} {fn : Func} {c : Code} {args : List AV} {r : AV} {s s1 : St} {n : Nat} {e : Exit} {T1 : Slots} (hF : FOk E (FG G H)) (hm : E.P.follows .mixedOrders = true) (hf : E.P.funcs[f]? = some fn)
    (hname : (fn.name == "runtime.NumGoroutine") = false) (hb : fn.body = some c) (hl : args.length ≤ fn.ntmps) (hs : statOk fn.ntmps c = true)
    (hrun : run (fun _ _ => true) E G H n c (T0 0 args) s = some (e, T1, s1)) (he : e = .normal ∨ e = .ret) (hr : ares E T1 s1 fn.results = some r) (hbr : blw s1.nx 40 r = true) (hnx : s.nx ≤ s1.nx) (hcl : closedC s1 = true) :
    FT E (fun i => i ∈ List.range s.nx) f args s r s1 := by
  refine FT.own hF hm hf hname hb rfl rfl hl hs fun μ w => WP_mono _ _ _ _ _ (fun e' T' s' h => ?_) (run_sound (C := ⟨E, s.nx, (fun i => i ∈ List.range s.nx), fn.ntmps, μ, s, w⟩) (fun x l h => ?_) n c _ s e T1 s1 hrun)
  · obtain ⟨rfl, rfl, rfl⟩ := h
    refine ⟨he, hr, blw_sound hbr, hnx, Nat.le_refl _, fun _ => ⟨fun _ _ => rfl, fun id hi _ o ho => ?_⟩⟩
    have := List.all_eq_true.1 hcl id (List.mem_range.2 hi)
    rw [ho] at this
    exact oblw_sound this
  · have hall : ∀ id, May s.nx (fun i => i ∈ List.range s.nx) id := fun id => by
      by_cases h : id < s.nx
      · exact .inl (List.mem_range.2 h)
      · exact .inr (by omega)
    refine ⟨?_, fun id _ => hall id⟩
    cases x <;> first | exact hall _ | exact trivial
end
end Go.Am
namespace Go.Am
/-! ### tables by fuel -/
/-- What is asked of a function that is run. -/
def chkF (P : Program) (f : FuncId) : Bool := match P.funcs[f]? with
  | some fn => !(fn.name == "runtime.NumGoroutine") && (match fn.body with
    | some c => statOk fn.ntmps c
    | none => false)
  | none => false
def finE (e : Exit) : Bool := match e with
  | .normal => true
  | .ret => true
  | _ => false
theorem finE_sound {e : Exit} (h : finE e = true) : e = .normal ∨ e = .ret := by
  cases e <;> first | exact .inl rfl | exact .inr rfl | cases h
section
variable (E : Env) (B : Fns) (okF : FuncId → Bool) (efF : FuncId → Bool) (m : Nat)
/-- One function, run on data. -/
def goP (G : FuncId → List AV → St → Option AV) (H : Fns) (f : FuncId) (xs : List AV) (s : St) : Option AV := match E.P.funcs[f]? with
  | some fn => match fn.body with
    | some c => match decide (xs.length ≤ fn.ntmps) with
      | true => match run (okN s.nx) E G H m c (T0 0 xs) s with
        | some (e, T1, s1) => match finE e with
          | true => match ares E T1 s1 fn.results with
            | some r1 => freeze s1 s.nx 40 r1
            | none => none
          | false => none
        | none => none
      | false => none
    | none => none
  | none => none
/-- One function, run with effects. -/
def goE (G : FuncId → List AV → St → Option AV) (H : Fns) (f : FuncId) (xs : List AV) (s : St) : Option (AV × St × List Nat) := match E.P.funcs[f]? with
  | some fn => match fn.body with
    | some c => match decide (xs.length ≤ fn.ntmps) with
      | true => match run (fun _ _ => true) E G H m c (T0 0 xs) s with
        | some (e, T1, s1) => match finE e with
          | true => match ares E T1 s1 fn.results with
            | some r => match blw s1.nx 40 r && decide (s.nx ≤ s1.nx) && closedC s1 with
              | true => some (r, s1, List.range s.nx)
              | false => none
            | none => none
          | false => none
        | none => none
      | false => none
    | none => none
  | none => none
structure Tb where
  G : FuncId → List AV → St → Option AV
  H : Fns
def tab : Nat → Tb
  | 0 => ⟨fun _ _ _ => none, B⟩
  | n + 1 => ⟨fun f xs s => match okF f && !efF f with
      | true => goP E m (tab n).G (tab n).H f xs s
      | false => none,
    fun f xs s => match B f xs s with
      | some r => some r
      | none => match okF f with
        | true => goE E m (tab n).G (tab n).H f xs s
        | false => none⟩
end
section
variable {E : Env} {B : Fns} {okF : FuncId → Bool} {efF : FuncId → Bool} {m : Nat}
theorem goP_sound {G : FuncId → List AV → St → Option AV} {H : Fns} {f : FuncId} {xs : List AV} {s : St} {r : AV} (hF : FOk E (FG G H)) (hm : E.P.follows .mixedOrders = true) (hc : chkF E.P f = true) (h : goP E m G H f xs s = some r) : FT E NoW f xs s r s := by
  unfold goP at h
  unfold chkF at hc
  split at h
  · rename_i fn hf
    rw [hf] at hc
    simp only at hc
    split at h
    · rename_i c hb
      rw [hb] at hc
      simp only [Bool.and_eq_true, Bool.not_eq_true'] at hc
      split at h
      · rename_i hl
        split at h
        · rename_i e T1 s1 hrun
          split at h
          · rename_i he
            split at h
            · rename_i r1 hr
              exact FT.runP hF hm hf hc.1 hb (of_decide_eq_true hl) hc.2 hrun (finE_sound he) hr h
            · cases h
          · cases h
        · cases h
      · cases h
    · cases h
  · cases h
theorem goE_sound {G : FuncId → List AV → St → Option AV} {H : Fns} {f : FuncId} {xs : List AV} {s s' : St} {r : AV} {l : List Nat} (hF : FOk E (FG G H)) (hm : E.P.follows .mixedOrders = true) (hc : chkF E.P f = true) (h : goE E m G H f xs s = some (r, s', l)) : FT E (fun i => i ∈ l) f xs s r s' := by
  unfold goE at h
  unfold chkF at hc
  split at h
  · rename_i fn hf
    rw [hf] at hc
    simp only at hc
    split at h
    · rename_i c hb
      rw [hb] at hc
      simp only [Bool.and_eq_true, Bool.not_eq_true'] at hc
      split at h
      · rename_i hl
        split at h
        · rename_i e T1 s1 hrun
          split at h
          · rename_i he
            split at h
            · rename_i r1 hr
              split at h
              · rename_i hx
                simp only [Bool.and_eq_true, decide_eq_true_eq] at hx
                simp only [Option.some.injEq, Prod.mk.injEq] at h
                obtain ⟨rfl, rfl, rfl⟩ := h
                exact FT.runE hF hm hf hc.1 hb (of_decide_eq_true hl) hc.2 hrun (finE_sound he) hr hx.1.1 hx.1.2 hx.2
              · cases h
            · cases h
          · cases h
        · cases h
      · cases h
    · cases h
  · cases h
theorem tab_ok (hB : FOk E B) (hm : E.P.follows .mixedOrders = true) (hok : ∀ f, okF f = true → chkF E.P f = true) : ∀ n, FOk E (FG (tab E B okF efF m n).G (tab E B okF efF m n).H) := by
  intro n
  induction n with
  | zero => intro f xs s r s' l h; exact hB f xs s r s' l h
  | succ n ih =>
    intro f xs s r s' l h
    have e0 : (fun id => id ∈ ([] : List Nat)) = NoW := by funext id; simp
    unfold FG at h
    split at h
    · rename_i r1 hG
      simp only [Option.some.injEq, Prod.mk.injEq] at h
      obtain ⟨rfl, rfl, rfl⟩ := h
      rw [e0]
      simp only [tab] at hG
      split at hG
      · rename_i hk
        simp only [Bool.and_eq_true] at hk
        exact .inl (goP_sound ih hm (hok f hk.1) hG)
      · cases hG
    · simp only [tab] at h
      split at h
      · rename_i r1 hb
        rw [← hb] at *
        rw [hb] at h
        exact hB f xs s r s' l (hb.trans h)
      · split at h
        · rename_i hk
          exact .inl (goE_sound ih hm (hok f hk) h)
        · cases h
/-- A function without arguments, run: its answer at any state. -/
theorem FT.ofRun {n : Nat} {f : FuncId} {b : Bool} (hB : FOk E B) (hm : E.P.follows .mixedOrders = true) (hok : ∀ f, okF f = true → chkF E.P f = true) (hf : okF f = true)
    (h : goP E m (tab E B okF efF m n).G (tab E B okF efF m n).H f [] ⟨0, fun _ => none⟩ = some (.bool b)) (s : St) : FT E NoW f [] s (.bool b) s :=
  FT.closed (goP_sound (tab_ok hB hm hok n) hm (hok f hf) h) s
end
end Go.Am
