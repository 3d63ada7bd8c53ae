/- Part of the proof: abstract values over the given model of Go (AmY, AmZ, AmZB, AmZC, AmZD, AmZE, AmZF, AmZG). Conditions: none of its own; see the statement in the seat's Rows text. -/
import Derived.Test.YtkhfjjgcafkihaaGreatAmThree
import Derived.Below
import Derived.Lib.SliceRun
set_option linter.unusedSimpArgs false
set_option linter.unusedVariables false
set_option linter.unusedSectionVars false
namespace Go.Am

/-- What the functions are known to do: result, state, what is written. -/
abbrev Fns := FuncId → List AV → St → Option (AV × St × List Nat)
def FOk (E : Env) (F : Fns) : Prop := ∀ f xs s r s' l, F f xs s = some (r, s', l) → FT E (fun id => id ∈ l) f xs s r s' ∨ (FX E f xs s r ∧ s' = s)

/-! ### the code's transformer, made to be worked out by simp -/
def onW (w : Option Bool) (A B : Prop) : Prop := match w with
  | some true => A
  | some false => B
  | none => False
def onV (v : Option (AV × St × List Nat)) (k : AV → St → List Nat → Prop) : Prop := match v with
  | some (r, s, l) => k r s l
  | none => False
def onB (v : AV) (A B : Prop) : Prop := match v with
  | .bool true => A
  | .bool false => B
  | _ => False
theorem onW_t (A B : Prop) : onW (some true) A B = A := rfl
theorem onW_f (A B : Prop) : onW (some false) A B = B := rfl
theorem onV_s (r : AV) (s : St) (l : List Nat) (k : AV → St → List Nat → Prop) : onV (some (r, s, l)) k = k r s l := rfl
theorem onB_t (A B : Prop) : onB (.bool true) A B = A := rfl
theorem onB_f (A B : Prop) : onB (.bool false) A B = B := rfl
theorem onB_if {t : Bool} {A B : Prop} (h1 : t = true → A) (h2 : t = false → B) : onB (.bool t) A B := by
  cases t
  · exact h2 rfl
  · exact h1 rfl
theorem onW_if {t : Bool} {A B : Prop} (h1 : t = true → A) (h2 : t = false → B) : onW (some t) A B := by
  cases t
  · exact h2 rfl
  · exact h1 rfl

/-- A slice's literal of constants. -/
def cz (ops : List Oper) (o : Oper) : Bool :=
  match o.op with
  | .buildSlice _ n ps => n != 0 && ps.toList.all fun x => match x.2 with
    | .const _ => true
    | .tmp t => ops.any fun o' => match o'.op, o'.dst with
      | .build _ l, some d => d == t && l.toList.all fun y => match y.2 with
        | .const _ => true
        | _ => false
      | _, _ => false
    | _ => false
  | _ => false
/-- A slice's literal that is a call's argument, or turned into a text: it goes on as data. -/
def zOf (ops : List Oper) (o : Oper) : Bool :=
  match o.op, o.dst with
  | .buildSlice _ n _, some d => ops.any fun o' => match o'.op with
    | .convert _ _ (.tmp t) => t == d
    | .assign (.tmp t) => t == d && cz ops o
    | .build _ l => n != 0 && l.toList.any fun x => match x.2 with
      | .tmp t => t == d
      | _ => false
    | .call c => match c.callee with
      | .value _ => c.args.toList.any fun x => match x with
        | .tmp t => t == d
        | _ => false
      | .builtin .append => (c.args.toList.drop 1).any fun x => match x with
        | .tmp t => t == d
        | _ => false
      | _ => false
    | _ => false
  | _, _ => false
open Classical in
/-- A new row, as data. -/
noncomputable def zrow (s : St) (p : Option (AV × St)) : Option (AV × St × List Nat) :=
  match p with
  | some (.ls id 0 n, s1) => match s1.get id with
    | some (.row sz _ es) => if (s.nx ≤ id ∧ n = es.length) ∧ (∀ e ∈ es, e.length = sz) ∧ ∀ e ∈ es, ∀ x ∈ e, Below s.nx x then some (.sl es, s, []) else none
    | _ => none
  | _ => none
/-- One operation. -/
noncomputable def xop (E : Env) (F : Fns) (z : Bool) (op : Op) (T : Slots) (s : St) : Option (AV × St × List Nat) :=
  match op with
  | .call c => match c.callee with
    | .builtin b => (abuiltin E s b c.argTypes.toList (c.args.toList.map (ev E T))).map fun p => (p.1, p.2, [])
    | .value x => match ev E T x with
      | .fn (.func f) a b => F f (a ++ c.args.toList.map (ev E T) ++ b) s
      | _ => none
    | _ => none
  | .buildSlice t n ps => match z with
    | true => zrow s (aop E (.buildSlice t n ps) (ev E T) s)
    | false => (aop E (.buildSlice t n ps) (ev E T) s).map fun p => (p.1, p.2, [])
  | op => (aop E op (ev E T) s).map fun p => (p.1, p.2, [])
/-- It writes what may be written. -/
def WOk (n0 : Nat) (W : Nat → Prop) (x : AV) (l : List Nat) : Prop := x.may n0 W ∧ ∀ id ∈ l, May n0 W id

def RS (C : Cx) (F : Fns) (ops : Array Oper) : List Oper → Slots → St → (Slots → St → Prop) → Prop
  | [], T, s, k => k T s
  | o :: l, T, s, k => onW (awanted ops T o)
      (onV (xop C.E F (zOf ops.toList o) o.op T s) fun r s' ids => WOk C.n0 C.W (awr o.op (ev C.E T)) ids ∧ RS C F ops l (T.put o.dst r) s' k)
      (RS C F ops l (T.put o.dst (.tup [])) s k)
def RQ (C : Cx) (F : Fns) (ops : Array Oper) (m : Nat) : Nat → List Oper → Slots → St → (Slots → St → Prop) → Prop
  | _, [], T, s, k => k T s
  | i, o :: l, T, s, k => onW (awanted ops T o)
      (onV (xop C.E F (zOf ops.toList o) o.op T s) fun r s' ids => WOk C.n0 C.W (awr o.op (ev C.E T)) ids ∧ (s' = s ∨ m ≤ i) ∧ RQ C F ops m (i + 1) l (T.put o.dst r) s' k)
      (RQ C F ops m (i + 1) l (T.put o.dst (.tup [])) s k)

/-- A drawn region in which operations write. -/
def RW (b : Nat) (C : Cx) (F : Fns) (ops : Array Oper) (m : Nat) (P : St → Prop) : Nat → List Oper → Slots → St → (Slots → St → Prop) → Prop
  | i, [], T, s, k => (m < i ∨ P s) ∧ k T s
  | i, o :: l, T, s, k => (m < i ∨ P s) ∧ onW (awanted ops T o)
      (onV (xop C.E F (zOf ops.toList o) o.op T s) fun r s' ids => WOk C.n0 C.W (awr o.op (ev C.E T)) ids ∧ (m ≤ i ∨ wB b o = true ∨ s' = s) ∧
        (m ≤ i ∨ freeB b ops m i = false ∨ ∀ s2, P s2 → xop C.E F (zOf ops.toList o) o.op T s2 = some (r, s2, ids)) ∧ RW b C F ops m P (i + 1) l (T.put o.dst r) s' k)
      (RW b C F ops m P (i + 1) l (T.put o.dst (.tup [])) s k)

def dstOk (nt : Nat) (ops : Array Oper) : Bool := ops.toList.all fun o => o.dst.all fun i => decide (i < nt)
/-- From where on each operation stands behind all that is ahead of it. -/
def tailAt (ops : Array Oper) : Nat :=
  ((List.range ops.size).reverse.takeWhile fun i => match ops[i]? with
    | none => false
    | some o => (List.range i).all fun j => ancB ops 64 i j).getLast?.getD ops.size

def tQ (N : Slots → St → Prop) (Q : Exit → Slots → St → Prop) : Exit → Slots → St → Prop := thenQ N Q
def bQ (id : Nat) (Q : Exit → Slots → St → Prop) : Exit → Slots → St → Prop := blockQ id Q

def WP (C : Cx) (F : Fns) : Code → (Exit → Slots → St → Prop) → Slots → St → Prop
  | .skip, Q, T, s => Q .normal T s
  | .region _ ops false, Q, T, s => RS C F ops ops.toList T s fun T s => Q .normal T s
  | .region _ ops true, Q, T, s => RQ C F ops (tailAt ops) 0 ops.toList T s (fun T s => Q .normal T s) ∨ (∃ b, wrOk b ops (tailAt ops) = true ∧ ∃ P, RW b C F ops (tailAt ops) P 0 ops.toList T s fun T s => Q .normal T s)
  | .seq x y, Q, T, s => ∃ T' s', Gh C.n0 T s T' s' ∧ WP C F x (tQ (fun T s => WP C F y Q T s) Q) T' s'
  | .cond c x y, Q, T, s => onB (ev C.E T c) (WP C F x Q T s) (WP C F y Q T s)
  | .block id c, Q, T, s => WP C F c (bQ id Q) T s
  | .loop c, Q, T, s => ∃ (I : Nat → Slots → St → Prop) (n : Nat), I n T s ∧ ∀ n T s, I n T s → WP C F c (tQ (fun T' s' => ∃ n', n' < n ∧ I n' T' s') Q) T s
  | .exit id, Q, T, s => Q (.exit id) T s
  | .label _, Q, T, s => Q .normal T s
  | .ret, Q, T, s => Q .ret T s
  | _, _, _, _ => False

/-- What of a code's text must hold, whatever it is worked on. -/
def statOk (nt : Nat) : Code → Bool
  | .region _ ops false => dstOk nt ops
  | .region _ ops true => dstOk nt ops && anyOk ops (tailAt ops)
  | .seq x y => statOk nt x && statOk nt y
  | .cond _ x y => statOk nt x && statOk nt y
  | .block _ c => statOk nt c
  | .loop c => statOk nt c
  | _ => true

section
variable {C : Cx} {F : Fns} {ops : Array Oper} {Q : Exit → Slots → St → Prop} {T T' : Slots} {s s' : St}

theorem WP_skip : WP C F .skip Q T s = Q .normal T s := rfl
theorem WP_region {id : Nat} {l : List Oper} : WP C F (.region id l.toArray false) Q T s = RS C F l.toArray l T s fun T s => Q .normal T s := rfl
theorem WP_regf {id : Nat} {ops : Array Oper} : WP C F (.region id ops false) Q T s = RS C F ops ops.toList T s fun T s => Q .normal T s := rfl
theorem WP_regt {id : Nat} {ops : Array Oper} : WP C F (.region id ops true) Q T s = (RQ C F ops (tailAt ops) 0 ops.toList T s (fun T s => Q .normal T s) ∨ (∃ b, wrOk b ops (tailAt ops) = true ∧ ∃ P, RW b C F ops (tailAt ops) P 0 ops.toList T s fun T s => Q .normal T s)) := rfl
theorem WP_seq {x y : Code} : WP C F (.seq x y) Q T s = ∃ T' s', Gh C.n0 T s T' s' ∧ WP C F x (tQ (fun T s => WP C F y Q T s) Q) T' s' := rfl
theorem WP_loop_def {c : Code} : WP C F (.loop c) Q T s = ∃ (I : Nat → Slots → St → Prop) (n : Nat), I n T s ∧ ∀ n T s, I n T s → WP C F c (tQ (fun T' s' => ∃ n', n' < n ∧ I n' T' s') Q) T s := rfl
def okCode : Code → Bool
  | .skip | .region _ _ _ | .seq _ _ | .cond _ _ _ | .block _ _ | .loop _ | .exit _ | .label _ | .ret => true
  | _ => false
theorem WP_other {c : Code} (h : okCode c = false) : WP C F c Q T s → False := by
  cases c <;> simp [okCode] at h <;> exact fun h => h
theorem tQ_o {N : Slots → St → Prop} {e : Exit} (h : e ≠ .normal) : tQ N Q e T s = Q e T s := by
  cases e <;> first | exact absurd rfl h | rfl
theorem bQ_o {id : Nat} {e : Exit} (h : e ≠ .exit id) : bQ id Q e T s = Q e T s := by
  cases e with
  | exit j => exact if_neg fun h' => h (by rw [h'])
  | _ => rfl
theorem WP_cond {c : Operand} {x y : Code} : WP C F (.cond c x y) Q T s = onB (ev C.E T c) (WP C F x Q T s) (WP C F y Q T s) := rfl
theorem WP_block {id : Nat} {c : Code} : WP C F (.block id c) Q T s = WP C F c (bQ id Q) T s := rfl
theorem WP_exit {id : Nat} : WP C F (.exit id) Q T s = Q (.exit id) T s := rfl
theorem WP_label {id : Nat} : WP C F (.label id) Q T s = Q .normal T s := rfl
theorem WP_ret : WP C F .ret Q T s = Q .ret T s := rfl
theorem WP_loop {c : Code} (I : Nat → Slots → St → Prop) (n : Nat) (h0 : I n T s) (h : ∀ n T s, I n T s → WP C F c (tQ (fun T' s' => ∃ n', n' < n ∧ I n' T' s') Q) T s) : WP C F (.loop c) Q T s := ⟨I, n, h0, h⟩
theorem tQ_n {N : Slots → St → Prop} : tQ N Q .normal T s = N T s := rfl
theorem tQ_r {N : Slots → St → Prop} : tQ N Q .ret T s = Q .ret T s := rfl
theorem tQ_e {N : Slots → St → Prop} {id : Nat} : tQ N Q (.exit id) T s = Q (.exit id) T s := rfl
theorem bQ_n {id : Nat} : bQ id Q .normal T s = Q .normal T s := rfl
theorem bQ_r {id : Nat} : bQ id Q .ret T s = Q .ret T s := rfl
theorem bQ_e {id : Nat} : bQ id Q (.exit id) T s = Q .normal T s := if_pos rfl
theorem bQ_x {id id' : Nat} (h : id' ≠ id) : bQ id Q (.exit id') T s = Q (.exit id') T s := if_neg h
theorem RS_nil {k : Slots → St → Prop} : RS C F ops [] T s k = k T s := rfl
theorem RS_cons {o : Oper} {l : List Oper} {k : Slots → St → Prop} : RS C F ops (o :: l) T s k = onW (awanted ops T o)
      (onV (xop C.E F (zOf ops.toList o) o.op T s) fun r s' ids => WOk C.n0 C.W (awr o.op (ev C.E T)) ids ∧ RS C F ops l (T.put o.dst r) s' k)
      (RS C F ops l (T.put o.dst (.tup [])) s k) := rfl
theorem RW_nil {b : Nat} {m i : Nat} {P : St → Prop} {k : Slots → St → Prop} : RW b C F ops m P i [] T s k = ((m < i ∨ P s) ∧ k T s) := rfl
theorem RW_cons {b : Nat} {m i : Nat} {P : St → Prop} {o : Oper} {l : List Oper} {k : Slots → St → Prop} : RW b C F ops m P i (o :: l) T s k = ((m < i ∨ P s) ∧ onW (awanted ops T o)
      (onV (xop C.E F (zOf ops.toList o) o.op T s) fun r s' ids => WOk C.n0 C.W (awr o.op (ev C.E T)) ids ∧ (m ≤ i ∨ wB b o = true ∨ s' = s) ∧
        (m ≤ i ∨ freeB b ops m i = false ∨ ∀ s2, P s2 → xop C.E F (zOf ops.toList o) o.op T s2 = some (r, s2, ids)) ∧ RW b C F ops m P (i + 1) l (T.put o.dst r) s' k)
      (RW b C F ops m P (i + 1) l (T.put o.dst (.tup [])) s k)) := rfl
theorem RQ_nil {m i : Nat} {k : Slots → St → Prop} : RQ C F ops m i [] T s k = k T s := rfl
theorem RQ_cons {m i : Nat} {o : Oper} {l : List Oper} {k : Slots → St → Prop} : RQ C F ops m i (o :: l) T s k = onW (awanted ops T o)
      (onV (xop C.E F (zOf ops.toList o) o.op T s) fun r s' ids => WOk C.n0 C.W (awr o.op (ev C.E T)) ids ∧ (s' = s ∨ m ≤ i) ∧ RQ C F ops m (i + 1) l (T.put o.dst r) s' k)
      (RQ C F ops m (i + 1) l (T.put o.dst (.tup [])) s k) := rfl


/-! ### the rules, region by region -/
theorem RS_cons' {o : Oper} {l : List Oper} {k : Slots → St → Prop} : RS C F ops (o :: l) T s k = (match awanted ops T o with
    | some true => (match xop C.E F (zOf ops.toList o) o.op T s with
      | some (r, s', ids) => WOk C.n0 C.W (awr o.op (ev C.E T)) ids ∧ RS C F ops l (T.put o.dst r) s' k
      | none => False)
    | some false => RS C F ops l (T.put o.dst (.tup [])) s k
    | none => False) := rfl
theorem RQ_cons' {m i : Nat} {o : Oper} {l : List Oper} {k : Slots → St → Prop} : RQ C F ops m i (o :: l) T s k = (match awanted ops T o with
    | some true => (match xop C.E F (zOf ops.toList o) o.op T s with
      | some (r, s', ids) => WOk C.n0 C.W (awr o.op (ev C.E T)) ids ∧ (s' = s ∨ m ≤ i) ∧ RQ C F ops m (i + 1) l (T.put o.dst r) s' k
      | none => False)
    | some false => RQ C F ops m (i + 1) l (T.put o.dst (.tup [])) s k
    | none => False) := rfl
theorem WP.sr {id : Nat} {l : List Oper} {y : Code} (h : ∀ k : Slots → St → Prop, (∀ T s, WP C F y Q T s → k T s) → RS C F l.toArray l T s k) : WP C F (.seq (.region id l.toArray false) y) Q T s :=
  ⟨T, s, .refl T s, h _ fun T s h => h⟩
theorem WP.r {id : Nat} {l : List Oper} (h : ∀ k : Slots → St → Prop, (∀ T s, Q .normal T s → k T s) → RS C F l.toArray l T s k) : WP C F (.region id l.toArray false) Q T s :=
  h _ fun T s h => h
theorem WP.sd {id : Nat} {l : List Oper} {y : Code} (m : Nat) (hm : tailAt l.toArray = m) (h : ∀ k : Slots → St → Prop, (∀ T s, WP C F y Q T s → k T s) → RQ C F l.toArray m 0 l T s k) : WP C F (.seq (.region id l.toArray true) y) Q T s := by
  subst hm
  exact ⟨T, s, .refl T s, .inl (h _ fun T s h => h)⟩
theorem WP.d {id : Nat} {l : List Oper} (m : Nat) (hm : tailAt l.toArray = m) (h : ∀ k : Slots → St → Prop, (∀ T s, Q .normal T s → k T s) → RQ C F l.toArray m 0 l T s k) : WP C F (.region id l.toArray true) Q T s := by
  subst hm
  exact .inl (h _ fun T s h => h)
theorem WP.swb (b : Nat) {id : Nat} {l : List Oper} {y : Code} (m : Nat) (hm : tailAt l.toArray = m) (hw : wrOk b l.toArray m = true) (P : St → Prop) (h : ∀ k : Slots → St → Prop, (∀ T s, WP C F y Q T s → k T s) → RW b C F l.toArray m P 0 l T s k) : WP C F (.seq (.region id l.toArray true) y) Q T s := by
  subst hm
  exact ⟨T, s, .refl T s, .inr ⟨b, hw, P, h _ fun T s h => h⟩⟩
theorem WP.wb (b : Nat) {id : Nat} {l : List Oper} (m : Nat) (hm : tailAt l.toArray = m) (hw : wrOk b l.toArray m = true) (P : St → Prop) (h : ∀ k : Slots → St → Prop, (∀ T s, Q .normal T s → k T s) → RW b C F l.toArray m P 0 l T s k) : WP C F (.region id l.toArray true) Q T s := by
  subst hm
  exact .inr ⟨b, hw, P, h _ fun T s h => h⟩
theorem WP.sw {id : Nat} {l : List Oper} {y : Code} (m : Nat) (hm : tailAt l.toArray = m) (hw : wrOk 0 l.toArray m = true) (P : St → Prop) (h : ∀ k : Slots → St → Prop, (∀ T s, WP C F y Q T s → k T s) → RW 0 C F l.toArray m P 0 l T s k) : WP C F (.seq (.region id l.toArray true) y) Q T s := WP.swb 0 m hm hw P h
theorem WP.w {id : Nat} {l : List Oper} (m : Nat) (hm : tailAt l.toArray = m) (hw : wrOk 0 l.toArray m = true) (P : St → Prop) (h : ∀ k : Slots → St → Prop, (∀ T s, Q .normal T s → k T s) → RW 0 C F l.toArray m P 0 l T s k) : WP C F (.region id l.toArray true) Q T s := WP.wb 0 m hm hw P h
theorem WP.q {x y : Code} (h : WP C F x (tQ (fun T s => WP C F y Q T s) Q) T s) : WP C F (.seq x y) Q T s := ⟨T, s, .refl T s, h⟩
/-- A row of the call's own, as data from here on. -/
theorem WP.fz {x y : Code} (i id sz n : Nat) (k : RK) (es : List (List AV)) (hT : T.get i = .ls id 0 n) (hs : s.get id = some (.row sz k es)) (hn : n = es.length) (h0 : C.n0 ≤ id) (h : WP C F (.seq x y) Q (T.set i (.sl es)) (s.drop id)) : WP C F (.seq x y) Q T s := by
  obtain ⟨T', s', g, h⟩ := h
  subst hn
  exact ⟨T', s', .fz i id sz k es hT hs h0 g, h⟩
theorem WP.nl {x y : Code} (i : Nat) (hT : T.get i = .nsl) (h : WP C F (.seq x y) Q (T.set i (.sl [])) s) : WP C F (.seq x y) Q T s := by
  obtain ⟨T', s', g, h⟩ := h
  exact ⟨T', s', .nl i hT g, h⟩
theorem WP.nr {x y : Code} (i sz ty : Nat) (hT : T.get i = .nsl) (h : WP C F (.seq x y) Q (T.set i (.ls s.nx 0 0)) (s.push (.row sz (true, ty) []))) : WP C F (.seq x y) Q T s := by
  obtain ⟨T', s', g, h⟩ := h
  exact ⟨T', s', .nr i _ hT g, h⟩
theorem WP.weak {x y : Code} (T1 : Slots) (hT : ∀ i, T1.get i = .junk ∨ T1.get i = T.get i) (h : WP C F (.seq x y) Q T1 s) : WP C F (.seq x y) Q T s := by
  obtain ⟨T', s', g, h⟩ := h
  exact ⟨T', s', .weak hT g, h⟩
theorem WP.c {c : Operand} {x y : Code} (t : Bool) (ht : ev C.E T c = .bool t) (h1 : t = true → WP C F x Q T s) (h2 : t = false → WP C F y Q T s) : WP C F (.cond c x y) Q T s := by
  rw [WP_cond, ht]
  exact onB_if h1 h2
theorem WP.c1 {c : Operand} {x y : Code} (ht : ev C.E T c = .bool true) (h1 : WP C F x Q T s) : WP C F (.cond c x y) Q T s := by
  rw [WP_cond, ht]
  exact h1
theorem WP.c0 {c : Operand} {x y : Code} (ht : ev C.E T c = .bool false) (h1 : WP C F y Q T s) : WP C F (.cond c x y) Q T s := by
  rw [WP_cond, ht]
  exact h1
theorem onB_d (t : Bool) (A B : Prop) : onB (.bool t) A B = ((t = true → A) ∧ (t = false → B)) := by
  cases t <;> simp [onB]
theorem WP.cc {c : Operand} {x y : Code} (h : ∀ A B : Prop, (WP C F x Q T s → A) → (WP C F y Q T s → B) → onB (ev C.E T c) A B) : WP C F (.cond c x y) Q T s :=
  h _ _ (fun h => h) fun h => h
theorem WP.b {id : Nat} {c : Code} (h : WP C F c (bQ id Q) T s) : WP C F (.block id c) Q T s := h
theorem WP.e {id : Nat} (h : Q (.exit id) T s) : WP C F (.exit id) Q T s := h
theorem WP.k (h : Q .normal T s) : WP C F .skip Q T s := h
theorem WP.t (h : Q .ret T s) : WP C F .ret Q T s := h
theorem Qn {N : Slots → St → Prop} (h : N T s) : tQ N Q .normal T s := h
theorem Qr {N : Slots → St → Prop} (h : Q .ret T s) : tQ N Q .ret T s := h
theorem Qe {N : Slots → St → Prop} {id : Nat} (h : Q (.exit id) T s) : tQ N Q (.exit id) T s := h
theorem Bn {id : Nat} (h : Q .normal T s) : bQ id Q .normal T s := h
theorem Br {id : Nat} (h : Q .ret T s) : bQ id Q .ret T s := h
theorem Be {id : Nat} (h : Q .normal T s) : bQ id Q (.exit id) T s := (if_pos rfl).mpr h
theorem Bx {id id' : Nat} (hn : id' ≠ id) (h : Q (.exit id') T s) : bQ id Q (.exit id') T s := (if_neg hn).mpr h

theorem allGet2' {xs : List (List AV)} {n : Nat} (h : ∀ e ∈ xs, ∀ x ∈ e, Below n x) (i j : Nat) (x : AV) (hx : get2 xs i j = some x) : Below n x := by
  unfold get2 at hx
  cases hg : xs[i]? with
  | none => simp [hg] at hx
  | some e =>
    simp [hg] at hx
    exact h e (List.mem_of_getElem? hg) x (List.mem_of_getElem? hx)
theorem xop_sound (hF : FOk C.E F) (hC : C.n0 ≤ C.s.nx) {o : Oper} {z : Bool} {r : AV} {l : List Nat} (h : xop C.E F z o.op T s = some (r, s', l)) (hw : WOk C.n0 C.W (awr o.op (ev C.E T)) l) : StepS C o T s r s' := by
  have plain : ∀ {x : Option (AV × St)}, x = aop C.E o.op (ev C.E T) s → x.map (fun p => (p.1, p.2, ([] : List Nat))) = some (r, s', l) → StepS C o T s r s' := fun {x} he hx => by
    cases x with
    | none => cases hx
    | some p =>
      obtain ⟨a, b⟩ := p
      simp only [Option.map_some, Option.some.injEq, Prod.mk.injEq] at hx
      obtain ⟨rfl, rfl, _⟩ := hx
      exact .val he.symm hw.1
  unfold xop at h
  split at h
  · rename_i c hc
    split at h
    · rename_i b hb
      refine plain ?_ h
      simp only [hc, aop, hb]
    · rename_i x hx
      split at h
      · rename_i f a b hfn
        rcases hF _ _ _ _ _ _ h with hFT | ⟨hFX, hs⟩
        · exact .call hc (by simp only [acall, hx, hfn]) hFT hw.2 hC
        · exact .ext hc (by simp only [acall, hx, hfn]) hFX hs
      · cases h
    · cases h
  · rename_i t n ps hop
    split at h
    · unfold zrow at h
      split at h
      · rename_i id m s1 hp
        split at h
        · rename_i sz k es hs
          split at h
          · rename_i hc
            simp only [Option.some.injEq, Prod.mk.injEq] at h
            obtain ⟨rfl, rfl, _⟩ := h
            obtain ⟨⟨hid, rfl⟩, hsz, hB⟩ := hc
            refine .z (by rw [hop]; exact hp) (by rw [hop]; rfl) (.row id sz k es es hs hid rfl hsz (fun i j y hy => ⟨y, hy⟩) fun i j x y hx hy => ?_) hC rfl
            rw [hx] at hy
            obtain rfl := Option.some.inj hy
            exact .same x (allGet2' hB i j x hx)
          · cases h
        · cases h
      · cases h
    · exact plain (by rw [hop]) h
  · exact plain rfl h

theorem RS_sound (hF : FOk C.E F) (hC : C.n0 ≤ C.s.nx) (hd : dstOk C.nt ops = true) : ∀ (l : List Oper) (i : Nat) (T : Slots) (s : St), ops.toList.drop i = l →
    RS C F ops l T s (fun T s => Q .normal T s) → OT C ops Q (List.range' i l.length) T s := by
  intro l
  induction l with
  | nil => intro i T s _ h; exact OT.nil h
  | cons o l ih =>
    intro i T s hl h
    have ho : ops[i]? = some o := by
      rw [← Array.getElem?_toList, ← List.head?_drop, hl]; rfl
    have hl' : ops.toList.drop (i + 1) = l := by
      rw [← List.tail_drop, hl]; rfl
    have hdo : o.dst.all (fun i => decide (i < C.nt)) = true := List.all_eq_true.1 hd o (by rw [Array.mem_toList_iff]; exact Array.mem_of_getElem? ho)
    rw [List.length_cons, List.range'_succ]
    rw [RS_cons] at h
    unfold onW at h
    split at h
    · rename_i hw
      unfold onV at h
      split at h
      · rename_i r s' ids hx
        exact OT.step ho hw hdo (xop_sound hF hC hx h.1).one (ih (i + 1) _ _ hl' h.2)
      · exact h.elim
    · rename_i hw
      exact OT.skip ho hw hdo (ih (i + 1) _ _ hl' h)
    · exact h.elim

theorem RQ_RS {m : Nat} {k : Slots → St → Prop} : ∀ (l : List Oper) (i : Nat) (T : Slots) (s : St), RQ C F ops m i l T s k → RS C F ops l T s k := by
  intro l
  induction l with
  | nil => exact fun i T s h => h
  | cons o l ih =>
    intro i T s h
    rw [RQ_cons] at h
    rw [RS_cons]
    unfold onW at h ⊢
    split at h
    · unfold onV at h ⊢
      split at h
      · exact ⟨h.1, ih _ _ _ h.2.2⟩
      · exact h.elim
    · exact ih _ _ _ h
    · exact h.elim

theorem RQ_sound (hF : FOk C.E F) (hC : C.n0 ≤ C.s.nx) (hd : dstOk C.nt ops = true) {m : Nat} (hm : m ≤ ops.size) : ∀ (q i : Nat) (T : Slots), i + q = m →
    RQ C F ops m i (ops.toList.drop i) T s (fun T s => Q .normal T s) → ∃ T', OQ C ops s (List.range' i q) T T' ∧ OT C ops Q (List.range' m (ops.size - m)) T' s := by
  intro q
  induction q with
  | zero =>
    intro i T hi h
    have := RS_sound hF hC hd _ i T s rfl (RQ_RS _ _ _ _ h)
    simp only [Nat.add_zero] at hi
    subst hi
    exact ⟨T, .nil, by simpa using this⟩
  | succ q ih =>
    intro i T hi h
    have hlt : i < ops.size := by omega
    have hl : ops.toList.drop i = ops[i] :: ops.toList.drop (i + 1) := by
      have := List.drop_eq_getElem_cons (l := ops.toList) (i := i) (by simpa using hlt)
      simpa using this
    have ho : ops[i]? = some ops[i] := Array.getElem?_eq_getElem hlt
    have hdo : (ops[i]).dst.all (fun i => decide (i < C.nt)) = true := List.all_eq_true.1 hd _ (by rw [Array.mem_toList_iff]; exact Array.mem_of_getElem? ho)
    rw [hl, RQ_cons] at h
    rw [List.range'_succ]
    unfold onW at h
    split at h
    · rename_i hw
      unfold onV at h
      split at h
      · rename_i r s' ids hx
        obtain ⟨hwr, hs, hk⟩ := h
        obtain rfl := hs.resolve_right (by omega)
        obtain ⟨T', h1, h2⟩ := ih (i + 1) _ (by omega) hk
        exact ⟨T', .step ho hw hdo (xop_sound hF hC hx hwr) h1, h2⟩
      · exact h.elim
    · rename_i hw
      obtain ⟨T', h1, h2⟩ := ih (i + 1) _ (by omega) h
      exact ⟨T', .skip ho hw hdo h1, h2⟩
    · exact h.elim

theorem RW_RS {b : Nat} {m : Nat} {P : St → Prop} {k : Slots → St → Prop} : ∀ (l : List Oper) (i : Nat) (T : Slots) (s : St), RW b C F ops m P i l T s k → RS C F ops l T s k := by
  intro l
  induction l with
  | nil => exact fun i T s h => h.2
  | cons o l ih =>
    intro i T s h
    rw [RW_cons] at h
    rw [RS_cons]
    replace h := h.2
    unfold onW at h ⊢
    split at h
    · unfold onV at h ⊢
      split at h
      · exact ⟨h.1, ih _ _ _ h.2.2.2⟩
      · exact h.elim
    · exact ih _ _ _ h
    · exact h.elim
theorem RW_sound {b : Nat} (hF : FOk C.E F) (hC : C.n0 ≤ C.s.nx) (hd : dstOk C.nt ops = true) {m : Nat} {P : St → Prop} (hm : m ≤ ops.size) : ∀ (q i : Nat) (T : Slots) (s : St), i + q = m →
    RW b C F ops m P i (ops.toList.drop i) T s (fun T s => Q .normal T s) → ∃ T' s', OW b C ops m P i q T s T' s' ∧ OT C ops Q (List.range' m (ops.size - m)) T' s' := by
  intro q
  induction q with
  | zero =>
    intro i T s hi h
    have hp : P s := by
      cases hl : ops.toList.drop i with
      | nil => rw [hl, RW_nil] at h; exact h.1.resolve_left (by omega)
      | cons o l => rw [hl, RW_cons] at h; exact h.1.resolve_left (by omega)
    have := RS_sound hF hC hd _ i T s rfl (RW_RS _ _ _ _ h)
    simp only [Nat.add_zero] at hi
    subst hi
    exact ⟨T, s, .nil hp, by simpa using this⟩
  | succ q ih =>
    intro i T s hi h
    have hlt : i < ops.size := by omega
    have hl : ops.toList.drop i = ops[i] :: ops.toList.drop (i + 1) := by
      have := List.drop_eq_getElem_cons (l := ops.toList) (i := i) (by simpa using hlt)
      simpa using this
    have ho : ops[i]? = some ops[i] := Array.getElem?_eq_getElem hlt
    have hdo : (ops[i]).dst.all (fun i => decide (i < C.nt)) = true := List.all_eq_true.1 hd _ (by rw [Array.mem_toList_iff]; exact Array.mem_of_getElem? ho)
    rw [hl, RW_cons] at h
    obtain ⟨hp, h⟩ := h
    replace hp := hp.resolve_left (by omega)
    unfold onW at h
    split at h
    · rename_i hw
      unfold onV at h
      split at h
      · rename_i r s' ids hx
        obtain ⟨hwr, hs, hfr, hk⟩ := h
        obtain ⟨T', s1, h1, h2⟩ := ih (i + 1) _ _ (by omega) hk
        refine ⟨T', s1, .step hp ⟨ho, hdo, .inl ⟨hw, xop_sound hF hC hx hwr, fun hf s2 hp2 => ?_⟩, fun hwb => ?_⟩ h1, h2⟩
        · rcases hfr with h | h | h
          · omega
          · rw [h] at hf; cases hf
          · exact xop_sound hF hC (h s2 hp2) hwr
        · rcases hs with h | h | h
          · omega
          · rw [h] at hwb; cases hwb
          · exact h
      · exact h.elim
    · rename_i hw
      obtain ⟨T', s1, h1, h2⟩ := ih (i + 1) _ _ (by omega) h
      exact ⟨T', s1, .step hp ⟨ho, hdo, .inr ⟨hw, rfl, rfl⟩, fun _ => rfl⟩ h1, h2⟩
    · exact h.elim

theorem WP_sound (hF : FOk C.E F) (hm : C.E.P.follows .mixedOrders = true) (hC : C.n0 ≤ C.s.nx) : ∀ (c : Code) (Q : Exit → Slots → St → Prop) (T : Slots) (s : St), statOk C.nt c = true → WP C F c Q T s → CT C c Q T s := by
  intro c
  induction c with
  | skip => exact fun Q T s _ h => CT.skip h
  | region id ops draw =>
    intro Q T s hs h
    cases draw with
    | false =>
      refine CT.region ?_
      have := RS_sound hF hC hs _ 0 T s rfl h
      rw [List.range_eq_range']
      simpa using this
    | true =>
      simp only [statOk, Bool.and_eq_true] at hs
      have hle := (anyOk_spec hs.2).le
      rcases h with h | ⟨b, hw, h⟩
      · obtain ⟨T', h1, h2⟩ := RQ_sound hF hC hs.1 hle (tailAt ops) 0 T (by omega) h
        exact CT.any _ hm hs.2 h1 h2
      · obtain ⟨P, h⟩ := h
        obtain ⟨T', s1, h1, h2⟩ := RW_sound hF hC hs.1 hle (tailAt ops) 0 T s (by omega) h
        exact CT.anyW _ hm hs.2 hw h1 h2
  | seq x y ihx ihy =>
    intro Q T s hs h
    simp only [statOk, Bool.and_eq_true] at hs
    obtain ⟨T', s', g, h⟩ := h
    refine CT.gh g (CT.seq (CT.mono (ihx _ T' s' hs.1 h) fun e T s hq => ?_))
    cases e with
    | normal => exact ihy Q T s hs.2 hq
    | _ => exact hq
  | cond c x y ihx ihy =>
    intro Q T s hs h
    simp only [statOk, Bool.and_eq_true] at hs
    rw [WP_cond] at h
    unfold onB at h
    split at h
    · rename_i hc; exact CT.cond hc (ihx Q T s hs.1 h)
    · rename_i hc; exact CT.cond hc (ihy Q T s hs.2 h)
    · exact h.elim
  | block id c ih => exact fun Q T s hs h => CT.block (ih _ T s hs h)
  | loop c ih =>
    intro Q T s hs h
    obtain ⟨I, n, h0, hr⟩ := h
    exact CT.loop I h0 fun n T s hI => ih _ T s hs (hr n T s hI)
  | exit id => exact fun Q T s _ h => CT.exit h
  | label l => exact fun Q T s _ h => CT.label h
  | ret => exact fun Q T s _ h => CT.ret h
  | _ => exact fun Q T s _ h => h.elim

/-- A function, by its transformer. -/
theorem FT.wp {E : Env} {F : Fns} {W : Nat → Prop} {f : FuncId} {fn : Func} {c : Code} {args : List AV} {r : AV} {nt : Nat} (hF : FOk E F) (hm : E.P.follows .mixedOrders = true) (hf : E.P.funcs[f]? = some fn)
    (hname : (fn.name == "runtime.NumGoroutine") = false) (hb : fn.body = some c) (hnt : fn.ntmps = nt) (hl : args.length ≤ nt) (hs : statOk nt c = true)
    (h : ∀ μ w, WP ⟨E, s.nx, W, nt, μ, s, w⟩ F c (Fin E fn W s r s') (T0 0 args) s) : FT E W f args s r s' := by
  subst hnt
  exact FT.intro hf hname hb hl fun μ w => WP_sound hF hm (Nat.le_refl _) c _ _ s hs (h μ w)
end
attribute [irreducible] tQ bQ WP RS RQ RW
end Go.Am
namespace Go.Am

abbrev NoW : Nat → Prop := fun _ => False
/-- The end of a function's body that leaves all as it was. -/
def FinP (E : Env) (rs : Array ResultVar) (s0 : St) (r : AV) : Exit → Slots → St → Prop := fun e T s1 =>
  (e = .normal ∨ e = .ret) ∧ ares E T s1 rs = some r ∧ Below s0.nx r

attribute [simp] Below.junk Below.bool Below.int Below.str Below.nsl Below.np Below.nmap Below.nfn Below.nif

theorem allGet {cs : List AV} {n : Nat} : (∀ (i : Nat) x, cs[i]? = some x → Below n x) ↔ ∀ x ∈ cs, Below n x :=
  ⟨fun h x hx => by obtain ⟨i, hi, e⟩ := List.getElem_of_mem hx; exact h i x (by rw [List.getElem?_eq_getElem hi, e]), fun h i x hx => h x (List.mem_of_getElem? hx)⟩
theorem allGet2 {xs : List (List AV)} {n : Nat} : (∀ i j x, get2 xs i j = some x → Below n x) ↔ ∀ e ∈ xs, ∀ x ∈ e, Below n x := by
  constructor
  · intro h e he x hx
    obtain ⟨i, hi, e1⟩ := List.getElem_of_mem he
    obtain ⟨j, hj, e2⟩ := List.getElem_of_mem hx
    exact h i j x (by subst e1; simp [get2, hi, List.getElem?_eq_getElem hj, e2])
  · intro h i j x hx
    unfold get2 at hx
    cases hg : xs[i]? with
    | none => simp [hg] at hx
    | some e =>
      simp [hg] at hx
      exact h e (List.mem_of_getElem? hg) x (List.mem_of_getElem? hx)
@[simp] theorem below_agg {n : Nat} {cs : List AV} : Below n (.agg cs) ↔ ∀ x ∈ cs, Below n x := ⟨fun h => by cases h with | agg _ h => exact allGet.1 h, fun h => .agg _ (allGet.2 h)⟩
@[simp] theorem below_tup {n : Nat} {cs : List AV} : Below n (.tup cs) ↔ ∀ x ∈ cs, Below n x := ⟨fun h => by cases h with | tup _ h => exact allGet.1 h, fun h => .tup _ (allGet.2 h)⟩
@[simp] theorem below_rp {n : Nat} {cs : List AV} : Below n (.rp cs) ↔ ∀ x ∈ cs, Below n x := ⟨fun h => by cases h with | rp _ h => exact allGet.1 h, fun h => .rp _ (allGet.2 h)⟩
@[simp] theorem below_sl {n : Nat} {xs : List (List AV)} : Below n (.sl xs) ↔ ∀ e ∈ xs, ∀ x ∈ e, Below n x := ⟨fun h => by cases h with | sl _ h => exact allGet2.1 h, fun h => .sl _ (allGet2.2 h)⟩
@[simp] theorem below_ptr {n id off : Nat} : Below n (.ptr id off) ↔ id < n := ⟨fun h => by cases h; assumption, .ptr _ _⟩
@[simp] theorem below_ep {n id i j : Nat} : Below n (.ep id i j) ↔ id < n := ⟨fun h => by cases h; assumption, .ep _ _ _⟩
@[simp] theorem below_ls {n id i j : Nat} : Below n (.ls id i j) ↔ id < n := ⟨fun h => by cases h; assumption, .ls _ _ _⟩
@[simp] theorem below_map {n id : Nat} : Below n (.map id) ↔ id < n := ⟨fun h => by cases h; assumption, .map _⟩
@[simp] theorem below_ifc {n : Nat} {t : TypeId} {x : AV} : Below n (.ifc t x) ↔ Below n x := ⟨fun h => by cases h; assumption, .ifc _ _⟩
@[simp] theorem obelow_var {n : Nat} {ty : TypeId} {cs : List AV} : OBelow n (.var ty cs) ↔ ∀ x ∈ cs, Below n x := ⟨fun h => by cases h with | var _ _ h => exact allGet.1 h, fun h => .var _ _ (allGet.2 h)⟩
@[simp] theorem obelow_row {n sz : Nat} {k : RK} {xs : List (List AV)} : OBelow n (.row sz k xs) ↔ ∀ e ∈ xs, ∀ x ∈ e, Below n x := ⟨fun h => by cases h with | row _ _ _ h => exact allGet2.1 h, fun h => .row _ _ _ (allGet2.2 h)⟩

/-- The end of a function's body that leaves something. -/
def FinW (E : Env) (rs : Array ResultVar) (W : Nat → Prop) (s0 : St) (r : AV) (s' : St) : Exit → Slots → St → Prop := fun e T s1 =>
  (e = .normal ∨ e = .ret) ∧ ares E T s1 rs = some r ∧ Below s'.nx r ∧ s0.nx ≤ s'.nx ∧ s'.nx ≤ s1.nx ∧
    ((∀ id, id < s0.nx → ¬ W id → s1.get id = s0.get id) → (∀ id, id < s'.nx → s'.get id = s1.get id) ∧ ∀ id, id < s'.nx → W id ∨ s0.nx ≤ id → ∀ o, s'.get id = some o → OBelow s'.nx o)
theorem FT.own {E : Env} {F : Fns} {f : FuncId} {fn : Func} {c : Code} {args : List AV} {r : AV} {nt : Nat} {rs : Array ResultVar} {s s' : St} {W : Nat → Prop} (hF : FOk E F) (hm : E.P.follows .mixedOrders = true) (hf : E.P.funcs[f]? = some fn)
    (hname : (fn.name == "runtime.NumGoroutine") = false) (hb : fn.body = some c) (hnt : fn.ntmps = nt) (hrs : fn.results = rs) (hl : args.length ≤ nt) (hs : statOk nt c = true)
    (h : ∀ μ w, WP ⟨E, s.nx, W, nt, μ, s, w⟩ F c (FinW E rs W s r s') (T0 0 args) s) : FT E W f args s r s' := by
  subst hnt
  subst hrs
  refine FT.intro hf hname hb hl fun μ w => CT.mono (WP_sound hF hm (Nat.le_refl _) c _ _ s hs (h μ w)) fun e T s1 hq => ?_
  obtain ⟨h1, h2, h3, h4, h5, h6⟩ := hq
  exact ⟨h1, h2, h3, fun _ h => ⟨h4, h5, (h6 h).1, (h6 h).2⟩⟩

theorem FT.pure {E : Env} {F : Fns} {f : FuncId} {fn : Func} {c : Code} {args : List AV} {r : AV} {nt : Nat} {rs : Array ResultVar} {s : St} (hF : FOk E F) (hm : E.P.follows .mixedOrders = true) (hf : E.P.funcs[f]? = some fn)
    (hname : (fn.name == "runtime.NumGoroutine") = false) (hb : fn.body = some c) (hnt : fn.ntmps = nt) (hrs : fn.results = rs) (hl : args.length ≤ nt) (hs : statOk nt c = true)
    (h : ∀ μ w, WP ⟨E, s.nx, NoW, nt, μ, s, w⟩ F c (FinP E rs s r) (T0 0 args) s) : FT E NoW f args s r s := by
  subst hnt
  subst hrs
  refine FT.intro hf hname hb hl fun μ w => CT.mono (WP_sound hF hm (Nat.le_refl _) c _ _ s hs (h μ w)) fun e T s1 hq => ?_
  exact ⟨hq.1, hq.2.1, hq.2.2, fun h1 h2 => Ends.pure h1 fun id hid _ => h2 id hid fun h => h⟩

def Fns.add (F : Fns) (f : FuncId) (g : List AV → St → Option (AV × St × List Nat)) : Fns := fun f' xs s => if f' = f then g xs s else F f' xs s
def Fns.addP (F : Fns) (f : FuncId) (p : List AV → Option AV) : Fns := fun f' xs s => if f' = f then (p xs).map fun r => (r, s, []) else F f' xs s
def F0 : Fns := fun _ _ _ => none
theorem F0_ok {E : Env} : FOk E F0 := fun f xs s r s' l h => by cases h
theorem FOk.add {E : Env} {F : Fns} {f : FuncId} {g : List AV → St → Option (AV × St × List Nat)} (h : FOk E F) (hg : ∀ xs s r s' l, g xs s = some (r, s', l) → FT E (fun id => id ∈ l) f xs s r s') : FOk E (F.add f g) := by
  intro f' xs s r s' l he
  unfold Fns.add at he
  split at he
  · rename_i e; subst e; exact .inl (hg xs s r s' l he)
  · exact h f' xs s r s' l he
theorem FOk.addP {E : Env} {F : Fns} {f : FuncId} {p : List AV → Option AV} (h : FOk E F) (hp : ∀ xs s r, p xs = some r → FT E NoW f xs s r s) : FOk E (F.addP f p) := by
  intro f' xs s r s' l he
  unfold Fns.addP at he
  split at he
  · rename_i e
    subst e
    cases hx : p xs with
    | none => rw [hx] at he; cases he
    | some v =>
      rw [hx] at he
      simp only [Option.map_some, Option.some.injEq, Prod.mk.injEq] at he
      obtain ⟨rfl, rfl, rfl⟩ := he
      have : (fun id => id ∈ ([] : List Nat)) = NoW := by funext id; simp
      rw [this]
      exact .inl (hp xs s v hx)
  · exact h f' xs s r s' l he

theorem FOk.addX {E : Env} {F : Fns} {f : FuncId} {p : List AV → Option AV} (h : FOk E F) (hp : ∀ xs s r, p xs = some r → FX E f xs s r) : FOk E (F.addP f p) := by
  intro f' xs s r s' l he
  unfold Fns.addP at he
  split at he
  · rename_i e
    subst e
    cases hx : p xs with
    | none => rw [hx] at he; cases he
    | some v =>
      rw [hx] at he
      simp only [Option.map_some, Option.some.injEq, Prod.mk.injEq] at he
      obtain ⟨rfl, rfl, rfl⟩ := he
      exact .inr ⟨hp xs s v hx, rfl⟩
  · exact h f' xs s r s' l he

/-- A step that has only laid new blocks, and drawn. -/
theorem Fr.below {E : Env} {n0 : Nat} {W : Nat → Prop} {μ : Mu} {s : St} {w w' : World} (h : Rel E μ s w) (b : Go.RowKit.Below w.heap.size w w') : Fr n0 W μ s w μ s w' where
  os := b.os
  tape := b.tape
  output := b.output
  size := b.size
  nx := Nat.le_refl _
  blocks k hk _ := b.block k hk
  keep _ _ _ h _ := h
  old _ _ _ h := h
  new id p hid hp := absurd (h.lt id p hp) (by omega)
  shape i o _ ho := ⟨o, ho, rfl⟩
  same _ _ _ := rfl
theorem Rel.below {E : Env} {μ : Mu} {s : St} {w w' : World} (h : Rel E μ s w) (b : Go.RowKit.Below w.heap.size w w') : Rel E μ s w' where
  obj i p hp := by
    obtain ⟨h1, o1, h2, h3⟩ := h.obj i p hp
    exact ⟨h1, o1, h2, h3.mono (Fr.below (n0 := 0) (W := fun _ => False) h b) (b.block _ (h.block_lt hp))⟩
  inj := h.inj
  lo := h.lo
  gl k hk := (b.block k (Nat.lt_of_lt_of_le hk h.size)).trans (h.gl k hk)
  size := Nat.le_trans h.size b.size
  tape := b.tape.trans h.tape
  os := b.os.trans h.os
theorem FT.below {E : Env} {f : FuncId} {args : List AV} {s : St} {r : AV} (hok : FnOk E.P f)
    (h : ∀ μ w vs, Rel E μ s w → VRs μ s w args vs → Calls E.P f vs w fun e w' => ∃ v, e = .returned v ∧ VR μ s w r v ∧ Go.RowKit.Below w.heap.size w w') : FT E NoW f args s r s :=
  ⟨hok, fun μ w vs hR hv => Calls.mono (h μ w vs hR hv) fun e w' he => by
    obtain ⟨v, h1, h2, h3⟩ := he
    exact ⟨v, μ, h1, h2.mono (Fr.below (n0 := 0) (W := fun _ => False) hR h3), hR.below h3, Fr.below hR h3⟩⟩

theorem mixed_of {E : Env} {P : Program} (hP : E.P = P) (h : P.follows .mixedOrders = true) : E.P.follows .mixedOrders = true := by rw [hP]; exact h

theorem wrap64 {x : Int} (h1 : -9223372036854775808 ≤ x) (h2 : x < 9223372036854775808) : IntKind.i64.wrap x = x := by
  simp [IntKind.wrap, IntKind.signed, IntKind.bits]
  omega
end Go.Am
namespace Go.Am

section
variable {E : Env} {μ : Mu} {s0 s1 : St} {w : World}
/-- The end of a body whose result goes on as data. -/
def FinZ (E : Env) (rs : Array ResultVar) (s0 : St) (r : AV) : Exit → Slots → St → Prop := fun e T s1 =>
  (e = .normal ∨ e = .ret) ∧ ∃ r1, ares E T s1 rs = some r1 ∧ Frz s1 s0.nx r1 r

theorem FT.data {F : Fns} {f : FuncId} {fn : Func} {c : Code} {args : List AV} {r : AV} {nt : Nat} {rs : Array ResultVar} {s : St} (hF : FOk E F) (hm : E.P.follows .mixedOrders = true) (hf : E.P.funcs[f]? = some fn)
    (hname : (fn.name == "runtime.NumGoroutine") = false) (hb : fn.body = some c) (hnt : fn.ntmps = nt) (hrs : fn.results = rs) (hl : args.length ≤ nt) (hs : statOk nt c = true)
    (h : ∀ μ w, WP ⟨E, s.nx, NoW, nt, μ, s, w⟩ F c (FinZ E rs s r) (T0 0 args) s) : FT E NoW f args s r s := by
  subst hnt
  subst hrs
  refine ⟨⟨fn, hf, hname, by rw [hb]; rfl⟩, fun μ w vs hR hvs => ?_⟩
  refine calls_of_wp hf hb (wp_mono (WP_sound hF hm (Nat.le_refl _) c _ _ s hs (h μ w) μ w _ (At.start hR hvs hl)) fun e a w' hp => ?_)
  obtain ⟨μ1, T1, s1, hA, he, r1, hr, hZ⟩ := hp
  obtain ⟨v, hv1, hv2⟩ := ares_sound hA hr
  have hE : Ends NoW s s1 s := Ends.pure hA.fr.nx fun id hid _ => hA.fr.same id hid fun hm => by
    rcases hm with hm | hm
    · exact hm
    · exact absurd hid (Nat.not_lt.2 hm)
  have key : a.defers = [] ∧ ∃ v, (results fn a.tmps).run E.P w' = .ok v w' ∧ ∃ u μ', Ending.returned v = .returned u ∧ VR μ' s w' r u ∧ Rel E μ' s w' ∧ Fr s.nx NoW μ s w μ' s w' :=
    ⟨hA.de, v, hv1, v, μ1.cut s.nx, rfl, VR.frz hA.rel hE.get hZ hv2, hE.rel hR hA.rel hA.fr, hE.fr hA.fr⟩
  rcases he with rfl | rfl
  · exact key
  · exact key
end
end Go.Am
namespace Go.Am
section
variable {C : Cx} {F : Fns} {ops : Array Oper} {T : Slots} {s : St}
/-- One operation of a region in turn. -/
theorem RS.st {o : Oper} {l : List Oper} {k : Slots → St → Prop}
    (h : ∀ (A : AV → St → List Nat → Prop) (B : Prop), (∀ r s' ids, WOk C.n0 C.W (awr o.op (ev C.E T)) ids → RS C F ops l (T.put o.dst r) s' k → A r s' ids) → (RS C F ops l (T.put o.dst (.tup [])) s k → B) →
      onW (awanted ops T o) (onV (xop C.E F (zOf ops.toList o) o.op T s) A) B) : RS C F ops (o :: l) T s k := by
  rw [RS_cons]
  exact h _ _ (fun r s' ids h1 h2 => ⟨h1, h2⟩) fun h => h
theorem RQ.st {m i : Nat} {o : Oper} {l : List Oper} {k : Slots → St → Prop}
    (h : ∀ (A : AV → St → List Nat → Prop) (B : Prop), (∀ r s' ids, WOk C.n0 C.W (awr o.op (ev C.E T)) ids → (s' = s ∨ m ≤ i) → RQ C F ops m (i + 1) l (T.put o.dst r) s' k → A r s' ids) → (RQ C F ops m (i + 1) l (T.put o.dst (.tup [])) s k → B) →
      onW (awanted ops T o) (onV (xop C.E F (zOf ops.toList o) o.op T s) A) B) : RQ C F ops m i (o :: l) T s k := by
  rw [RQ_cons]
  exact h _ _ (fun r s' ids h1 h2 h3 => ⟨h1, h2, h3⟩) fun h => h
theorem RW.st {b : Nat} {m i : Nat} {P : St → Prop} {o : Oper} {l : List Oper} {k : Slots → St → Prop} (hp : m < i ∨ P s)
    (h : ∀ (A : AV → St → List Nat → Prop) (B : Prop), (∀ r s' ids, WOk C.n0 C.W (awr o.op (ev C.E T)) ids → (m ≤ i ∨ wB b o = true ∨ s' = s) → (m ≤ i ∨ freeB b ops m i = false ∨ ∀ s2, P s2 → xop C.E F (zOf ops.toList o) o.op T s2 = some (r, s2, ids)) →
        RW b C F ops m P (i + 1) l (T.put o.dst r) s' k → A r s' ids) → (RW b C F ops m P (i + 1) l (T.put o.dst (.tup [])) s k → B) →
      onW (awanted ops T o) (onV (xop C.E F (zOf ops.toList o) o.op T s) A) B) : RW b C F ops m P i (o :: l) T s k := by
  rw [RW_cons]
  exact ⟨hp, h _ _ (fun r s' ids h1 h2 h3 h4 => ⟨h1, h2, h3, h4⟩) fun h => h⟩
theorem RW.nl {b : Nat} {m i : Nat} {P : St → Prop} {k : Slots → St → Prop} (hp : m < i ∨ P s) (h : k T s) : RW b C F ops m P i [] T s k := by rw [RW_nil]; exact ⟨hp, h⟩
/-- What the free ones look at is kept. -/
def Keep (s : St) : List Nat → St → Prop
  | [], s2 => s.nx ≤ s2.nx
  | j :: l, s2 => s2.get j = s.get j ∧ Keep s l s2
@[simp] theorem Keep_nil (s s2 : St) : Keep s [] s2 = (s.nx ≤ s2.nx) := rfl
@[simp] theorem Keep_cons (s s2 : St) (j : Nat) (l : List Nat) : Keep s (j :: l) s2 = (s2.get j = s.get j ∧ Keep s l s2) := rfl
theorem Keep.nx {s s2 : St} : ∀ {l : List Nat}, Keep s l s2 → s.nx ≤ s2.nx
  | [], h => h
  | _ :: _, h => Keep.nx h.2
theorem Keep.get {s s2 : St} : ∀ {l : List Nat} {j : Nat}, Keep s l s2 → j ∈ l → s2.get j = s.get j
  | i :: l, j, h, hj => by
    rcases List.mem_cons.1 hj with rfl | hj
    · exact h.1
    · exact Keep.get h.2 hj
theorem RQ.nl {m i : Nat} {k : Slots → St → Prop} (h : k T s) : RQ C F ops m i [] T s k := by rw [RQ_nil]; exact h
/-- Arguments that say less. -/
theorem FT.args {E : Env} {W : Nat → Prop} {f : FuncId} {xs ys : List AV} {r : AV} {s' : St} (h : ∀ μ w vs, VRs μ s w xs vs → VRs μ s w ys vs) (hF : FT E W f ys s r s') : FT E W f xs s r s' :=
  ⟨hF.1, fun μ w vs hR hv => hF.2 μ w vs hR (h μ w vs hv)⟩
theorem RS.nl {k : Slots → St → Prop} (h : k T s) : RS C F ops [] T s k := by rw [RS_nil]; exact h
end
end Go.Am
namespace Go.Am
section
variable {C : Cx} {T : Slots} {s s2 : St} {a : Act} {w : World} {μ : Mu}
/-- Nil may be told as an empty row of one's own. -/
theorem CT.nlrow {c : Code} {Q : Exit → Slots → St → Prop} (i id : Nat) (hT : T.get i = .nsl) (h : s.nx ≤ s2.nx) (hg : ∀ id, id < s.nx → s2.get id = s.get id) (hid : id < s2.nx)
    (hc : CT C c Q (T.set i (.ls id 0 0)) s2) : CT C c Q T s :=
  CT.ghost (fun μ w a hA => ⟨μ, (hA.ext h hg).nlrow hT hid⟩) hc
/-- Whether data is nil is not known if it is empty. -/
theorem OT.nilq {ops : Array Oper} {Q : Exit → Slots → St → Prop} {i x : Nat} {rest : List Nat} {o : Oper} {t u : TypeId} {y : TI} {e : TypeId} {xs : List (List AV)} (ho : ops[i]? = some o) (hw : awanted ops T o = some true)
    (hop : o.op = .binOp .eql t (.tmp x) (.const (.slice none 0 0)) u) (hd : o.dst.all (fun i => decide (i < C.nt)) = true) (hy : C.E.ti t = some y) (he : y.desc = .slice e) (hx : T.get x = .sl xs)
    (k : ∀ b, (xs ≠ [] → b = false) → OT C ops Q rest (T.put o.dst (.bool b)) s) : OT C ops Q (i :: rest) T s := fun μ w a hA => by
  have hv := hA.tr.2 x
  rw [hx] at hv
  have hu : C.E.P.underlying t = some (.slice e) := by
    obtain ⟨_, h1, _⟩ := ti_parts hy
    rw [h1, he]
  have key : ∃ b, (xs ≠ [] → b = false) ∧ (execOp a.eval o).run C.E.P w = .ok (.value (.bool b)) w := by
    have run : ∀ (q : Option Addr) (n c : Nat), a.tmps.getD x undef = .slice q n c → (execOp a.eval o).run C.E.P w = .ok (.value (.bool q.isNone)) w := fun q n c hq => by
      have h1 := Go.Lib.run_eql_slice_nil (P := C.E.P) w t e q n c 0 0 hu
      simp only [execOp, hop, Act.eval, hq]
      simp [eqGuard, h1]
    generalize hvv : a.tmps.getD x undef = v at hv run
    cases hv with
    | slnil q => exact ⟨q.isNone, fun h => absurd rfl h, run q 0 0 rfl⟩
    | sl _ ad cap sz vs _ _ _ _ _ _ _ => exact ⟨false, fun _ => rfl, run (some ad) _ cap rfl⟩
  obtain ⟨b, hb, hrun⟩ := key
  rw [wpOps_cons]
  unfold wpOp
  simp only [ho, awanted_sound hA.tr hw, if_true]
  refine .inl ?_
  unfold Oper.wp
  rw [hrun]
  exact k b hb μ w _ (hA.put (VR.bool b) hA.rel hA.rel.refl hd)
end
theorem FT.ownC {E : Env} {f : FuncId} {fn : Func} {c : Code} {args : List AV} {r : AV} {nt : Nat} {rs : Array ResultVar} {s s' : St} {W : Nat → Prop} (hf : E.P.funcs[f]? = some fn)
    (hname : (fn.name == "runtime.NumGoroutine") = false) (hb : fn.body = some c) (hnt : fn.ntmps = nt) (hrs : fn.results = rs) (hl : args.length ≤ nt)
    (h : ∀ μ w, CT ⟨E, s.nx, W, nt, μ, s, w⟩ c (FinW E rs W s r s') (T0 0 args) s) : FT E W f args s r s' := by
  subst hnt
  subst hrs
  refine FT.intro hf hname hb hl fun μ w => CT.mono (h μ w) fun e T s1 hq => ?_
  obtain ⟨h1, h2, h3, h4, h5, h6⟩ := hq
  exact ⟨h1, h2, h3, fun _ h => ⟨h4, h5, (h6 h).1, (h6 h).2⟩⟩
end Go.Am
namespace Go.Am
/-- Less may be said of a row: its first elements alone. -/
theorem FT.trunc {E : Env} {W : Nat → Prop} {f : FuncId} {args : List AV} {s s' : St} {r : AV} {id sz ty : Nat} {es : List (List AV)} (n : Nat) (hs : s'.get id = some (.row sz (true, ty) es)) (hW : W id)
    (h : FT E W f args s r s') : FT E W f args s r (s'.put id (.row sz (true, ty) (es.take n))) := by
  refine ⟨h.1, fun μ w vs hR hv => Calls.mono (h.2 μ w vs hR hv) fun e w' he => ?_⟩
  obtain ⟨v, μ', he, h1, h2, h3⟩ := he
  have F : Fr s.nx W μ' s' w' μ' (s'.put id (.row sz (true, ty) (es.take n))) w' := by
    refine ⟨rfl, rfl, rfl, Nat.le_refl _, Nat.le_refl _, fun _ _ _ => rfl, fun _ _ _ h _ => h, fun _ _ _ h => h, fun i p hn hp => absurd (h2.lt i p hp) (by omega), fun i o hi ho => ?_, fun i hi hm => ?_⟩
    · rw [St.get_put] at ho
      split at ho
      · rename_i e
        subst e
        cases ho
        exact ⟨_, hs, rfl⟩
      · exact ⟨o, ho, rfl⟩
    · rw [St.get_put, if_neg]
      rintro rfl
      exact hm (.inl hW)
  refine ⟨v, μ', he, h1.mono F, ⟨fun i p hp => ?_, h2.inj, h2.lo, h2.gl, h2.size, h2.tape, h2.os⟩, h3.trans F⟩
  obtain ⟨k1, o, k2, k3⟩ := h2.obj i p hp
  refine ⟨k1, ?_⟩
  rw [St.get_put]
  by_cases e : i = id
  · subst e
    rw [if_pos rfl]
    refine ⟨_, rfl, ?_⟩
    obtain rfl : o = .row sz (true, ty) es := Option.some.inj (k2.symm.trans hs)
    obtain ⟨a1, us, t, lo, hi, a2, a3, a4, a5, a6, a7, a8⟩ := k3
    obtain ⟨rfl, rfl⟩ := a3.1 rfl
    refine ⟨a1, us, t, 0, 0, a2, a3, .inr (Nat.le_refl _), a5, Nat.le_trans (Nat.mul_le_mul_right _ (by simp; omega)) a6, fun e he => a7 e (List.mem_of_mem_take he), fun i j x hx => ?_⟩
    have : get2 es i j = some x := by
      unfold get2 at hx ⊢
      rw [List.getElem?_take] at hx
      split at hx
      · exact hx
      · cases hx
    obtain ⟨u, b1, b2⟩ := a8 i j x this
    exact ⟨u, b1, b2.mono F⟩
  · rw [if_neg e]
    exact ⟨o, k2, k3.mono F rfl⟩
end Go.Am
namespace Go.Am
/-- A loop's head: all that is known of the slots, told anew. -/
def Sub : Slots → Slots → Prop
  | [], _ => True
  | (k, v) :: A, B => v = B.get k ∧ Sub A B
@[simp] theorem Sub_nil (B : Slots) : Sub [] B = True := rfl
@[simp] theorem Sub_cons (k : Nat) (v : AV) (A B : Slots) : Sub ((k, v) :: A) B = (v = B.get k ∧ Sub A B) := rfl
theorem Sub.get : ∀ {A B : Slots}, Sub A B → ∀ i, A.get i = .junk ∨ A.get i = B.get i
  | [], _, _, _ => .inl rfl
  | (k, v) :: A, B, h, i => by
    obtain ⟨h1, h2⟩ := h
    simp only [Slots.get]
    split
    · rename_i e; subst e; exact .inr h1
    · exact Sub.get h2 i
section
variable {C : Cx} {F : Fns} {Q : Exit → Slots → St → Prop} {T : Slots} {s : St}
theorem WP_loopS {x y : Code} {σ : Type} (T1 : σ → Slots) (I : σ → St → Prop) (m : σ → Nat) (a0 : σ) (h0 : Sub (T1 a0) T) (hI : I a0 s)
    (h : ∀ a s, I a s → WP C F (.seq x y) (tQ (fun T' s' => ∃ a', m a' < m a ∧ Sub (T1 a') T' ∧ I a' s') Q) (T1 a) s) : WP C F (.loop (.seq x y)) Q T s := by
  refine WP_loop (fun n T s => ∃ a, m a = n ∧ Sub (T1 a) T ∧ I a s) (m a0) ⟨a0, rfl, h0, hI⟩ ?_
  rintro n T s ⟨a, rfl, hS, ha⟩
  refine WP.weak (T1 a) hS.get ?_
  have key := h a s ha
  have e : (fun (T' : Slots) (s' : St) => ∃ a', m a' < m a ∧ Sub (T1 a') T' ∧ I a' s') = (fun T' s' => ∃ n', n' < m a ∧ ∃ a, m a = n' ∧ Sub (T1 a) T' ∧ I a s') := by
    funext T' s'
    refine propext ⟨?_, ?_⟩
    · rintro ⟨a', h1, h2, h3⟩; exact ⟨m a', h1, a', rfl, h2, h3⟩
    · rintro ⟨n', h1, a', rfl, h2, h3⟩; exact ⟨a', h1, h2, h3⟩
  rw [e] at key
  exact key
/-- What is known of the slots, told anew. -/
theorem WP.sub {x y : Code} (T1 : Slots) (hT : Sub T1 T) (h : WP C F (.seq x y) Q T1 s) : WP C F (.seq x y) Q T s := WP.weak T1 hT.get h
end

theorem onV_if {c : Prop} [Decidable c] {x : Option (AV × St × List Nat)} {A : AV → St → List Nat → Prop} (h : c) (k : onV x A) : onV (if c then x else none) A := by rw [if_pos h]; exact k
/-- A store stands among operations that come in any order. -/
def needW (ops : Array Oper) : Bool := (List.range (tailAt ops)).any (wBi 0 ops) && wrOk 0 ops (tailAt ops)
section
variable {C : Cx} {F : Fns} {Q : Exit → Slots → St → Prop} {T : Slots} {s : St}
theorem WP.swK {id : Nat} {l : List Oper} {y : Code} (ids : List Nat) (hw : needW l.toArray = true) (h : ∀ k : Slots → St → Prop, (∀ T s, WP C F y Q T s → k T s) → RW 0 C F l.toArray (tailAt l.toArray) (Keep s ids) 0 l T s k) : WP C F (.seq (.region id l.toArray true) y) Q T s :=
  WP.sw _ rfl (by simp only [needW, Bool.and_eq_true] at hw; exact hw.2) (Keep s ids) h
theorem WP.wK {id : Nat} {l : List Oper} (ids : List Nat) (hw : needW l.toArray = true) (h : ∀ k : Slots → St → Prop, (∀ T s, Q .normal T s → k T s) → RW 0 C F l.toArray (tailAt l.toArray) (Keep s ids) 0 l T s k) : WP C F (.region id l.toArray true) Q T s :=
  WP.w _ rfl (by simp only [needW, Bool.and_eq_true] at hw; exact hw.2) (Keep s ids) h
end
@[simp] theorem nxa2 (n : Nat) : (n = n + 1 + 1) = False := by simp only [eq_iff_iff, iff_false]; omega
@[simp] theorem nxb2 (n : Nat) : (n + 1 + 1 = n) = False := by simp only [eq_iff_iff, iff_false]; omega
@[simp] theorem nxc2 (n : Nat) : (n < n + 1 + 1) = True := by simp only [eq_iff_iff, iff_true]; omega
@[simp] theorem nxd2 (n : Nat) : (n ≤ n + 1 + 1) = True := by simp only [eq_iff_iff, iff_true]; omega
@[simp] theorem nxa3 (n : Nat) : (n = n + 1 + 1 + 1) = False := by simp only [eq_iff_iff, iff_false]; omega
@[simp] theorem nxb3 (n : Nat) : (n + 1 + 1 + 1 = n) = False := by simp only [eq_iff_iff, iff_false]; omega
@[simp] theorem nxc3 (n : Nat) : (n < n + 1 + 1 + 1) = True := by simp only [eq_iff_iff, iff_true]; omega
@[simp] theorem nxd3 (n : Nat) : (n ≤ n + 1 + 1 + 1) = True := by simp only [eq_iff_iff, iff_true]; omega
@[simp] theorem nxa4 (n : Nat) : (n = n + 1 + 1 + 1 + 1) = False := by simp only [eq_iff_iff, iff_false]; omega
@[simp] theorem nxb4 (n : Nat) : (n + 1 + 1 + 1 + 1 = n) = False := by simp only [eq_iff_iff, iff_false]; omega
@[simp] theorem nxc4 (n : Nat) : (n < n + 1 + 1 + 1 + 1) = True := by simp only [eq_iff_iff, iff_true]; omega
@[simp] theorem nxd4 (n : Nat) : (n ≤ n + 1 + 1 + 1 + 1) = True := by simp only [eq_iff_iff, iff_true]; omega
@[simp] theorem nxa5 (n : Nat) : (n = n + 1 + 1 + 1 + 1 + 1) = False := by simp only [eq_iff_iff, iff_false]; omega
@[simp] theorem nxb5 (n : Nat) : (n + 1 + 1 + 1 + 1 + 1 = n) = False := by simp only [eq_iff_iff, iff_false]; omega
@[simp] theorem nxc5 (n : Nat) : (n < n + 1 + 1 + 1 + 1 + 1) = True := by simp only [eq_iff_iff, iff_true]; omega
@[simp] theorem nxd5 (n : Nat) : (n ≤ n + 1 + 1 + 1 + 1 + 1) = True := by simp only [eq_iff_iff, iff_true]; omega
@[simp] theorem nxa6 (n : Nat) : (n = n + 1 + 1 + 1 + 1 + 1 + 1) = False := by simp only [eq_iff_iff, iff_false]; omega
@[simp] theorem nxb6 (n : Nat) : (n + 1 + 1 + 1 + 1 + 1 + 1 = n) = False := by simp only [eq_iff_iff, iff_false]; omega
@[simp] theorem nxc6 (n : Nat) : (n < n + 1 + 1 + 1 + 1 + 1 + 1) = True := by simp only [eq_iff_iff, iff_true]; omega
@[simp] theorem nxd6 (n : Nat) : (n ≤ n + 1 + 1 + 1 + 1 + 1 + 1) = True := by simp only [eq_iff_iff, iff_true]; omega
@[simp] theorem nxa7 (n : Nat) : (n = n + 1 + 1 + 1 + 1 + 1 + 1 + 1) = False := by simp only [eq_iff_iff, iff_false]; omega
@[simp] theorem nxb7 (n : Nat) : (n + 1 + 1 + 1 + 1 + 1 + 1 + 1 = n) = False := by simp only [eq_iff_iff, iff_false]; omega
@[simp] theorem nxc7 (n : Nat) : (n < n + 1 + 1 + 1 + 1 + 1 + 1 + 1) = True := by simp only [eq_iff_iff, iff_true]; omega
@[simp] theorem nxd7 (n : Nat) : (n ≤ n + 1 + 1 + 1 + 1 + 1 + 1 + 1) = True := by simp only [eq_iff_iff, iff_true]; omega
@[simp] theorem nxa8 (n : Nat) : (n = n + 1 + 1 + 1 + 1 + 1 + 1 + 1 + 1) = False := by simp only [eq_iff_iff, iff_false]; omega
@[simp] theorem nxb8 (n : Nat) : (n + 1 + 1 + 1 + 1 + 1 + 1 + 1 + 1 = n) = False := by simp only [eq_iff_iff, iff_false]; omega
@[simp] theorem nxc8 (n : Nat) : (n < n + 1 + 1 + 1 + 1 + 1 + 1 + 1 + 1) = True := by simp only [eq_iff_iff, iff_true]; omega
@[simp] theorem nxd8 (n : Nat) : (n ≤ n + 1 + 1 + 1 + 1 + 1 + 1 + 1 + 1) = True := by simp only [eq_iff_iff, iff_true]; omega
@[simp] theorem nxa9 (n : Nat) : (n = n + 1 + 1 + 1 + 1 + 1 + 1 + 1 + 1 + 1) = False := by simp only [eq_iff_iff, iff_false]; omega
@[simp] theorem nxb9 (n : Nat) : (n + 1 + 1 + 1 + 1 + 1 + 1 + 1 + 1 + 1 = n) = False := by simp only [eq_iff_iff, iff_false]; omega
@[simp] theorem nxc9 (n : Nat) : (n < n + 1 + 1 + 1 + 1 + 1 + 1 + 1 + 1 + 1) = True := by simp only [eq_iff_iff, iff_true]; omega
@[simp] theorem nxd9 (n : Nat) : (n ≤ n + 1 + 1 + 1 + 1 + 1 + 1 + 1 + 1 + 1) = True := by simp only [eq_iff_iff, iff_true]; omega
@[simp] theorem nxa10 (n : Nat) : (n = n + 1 + 1 + 1 + 1 + 1 + 1 + 1 + 1 + 1 + 1) = False := by simp only [eq_iff_iff, iff_false]; omega
@[simp] theorem nxb10 (n : Nat) : (n + 1 + 1 + 1 + 1 + 1 + 1 + 1 + 1 + 1 + 1 = n) = False := by simp only [eq_iff_iff, iff_false]; omega
@[simp] theorem nxc10 (n : Nat) : (n < n + 1 + 1 + 1 + 1 + 1 + 1 + 1 + 1 + 1 + 1) = True := by simp only [eq_iff_iff, iff_true]; omega
@[simp] theorem nxd10 (n : Nat) : (n ≤ n + 1 + 1 + 1 + 1 + 1 + 1 + 1 + 1 + 1 + 1) = True := by simp only [eq_iff_iff, iff_true]; omega
/-! ### data and their cells -/
structure Cel (α : Type) where
  cs : α → List AV
  un : List AV → Option α
  sz : Nat
  un_cs : ∀ a, un (cs a) = some a
  cs_un : ∀ c a, un c = some a → c = cs a
  len : ∀ a, (cs a).length = sz
  bl : ∀ a n x, x ∈ cs a → Below n x
structure Vc (α : Type) where
  enc : α → AV
  dec : AV → Option α
  dec_enc : ∀ a, dec (enc a) = some a
  enc_dec : ∀ x a, dec x = some a → x = enc a
def sc (s : List UInt8) : List AV := [.str s]
def ic (k : IntKind) (n : Int) : List AV := [.int k n]
def bc (b : Bool) : List AV := [.bool b]
def cStr : Cel (List UInt8) where
  cs := sc
  un c := match c with
    | [.str s] => some s
    | _ => none
  sz := 1
  un_cs _ := rfl
  cs_un c a h := by split at h <;> cases h; rfl
  len _ := rfl
  bl a n x hx := by simp [sc] at hx; subst hx; exact .str _
def cInt (k : IntKind) : Cel Int where
  cs := ic k
  un c := match c with
    | [.int k' n] => if k' = k then some n else none
    | _ => none
  sz := 1
  un_cs _ := by simp [ic]
  cs_un c a h := by
    split at h
    · split at h
      · rename_i hk; subst hk; cases h; rfl
      · cases h
    · cases h
  len _ := rfl
  bl a n x hx := by simp [ic] at hx; subst hx; exact .int _ _
def unL {α : Type} (c : Cel α) : List (List AV) → Option (List α)
  | [] => some []
  | e :: es => match c.un e, unL c es with
    | some a, some l => some (a :: l)
    | _, _ => none
theorem unL_map {α : Type} (c : Cel α) (l : List α) : unL c (l.map c.cs) = some l := by
  induction l with
  | nil => rfl
  | cons a l ih => simp [unL, c.un_cs, ih]
theorem unL_eq {α : Type} (c : Cel α) : ∀ (es : List (List AV)) (l : List α), unL c es = some l → es = l.map c.cs
  | [], l, h => by cases h; rfl
  | e :: es, l, h => by
    simp only [unL] at h
    split at h
    · rename_i a l' h1 h2
      cases h
      rw [c.cs_un _ _ h1, unL_eq c _ _ h2]; rfl
    · cases h
def slc {α : Type} (f : α → List AV) (l : List α) : List AV := [.sl (l.map f)]
def cSl {α : Type} (c : Cel α) : Cel (List α) where
  cs := slc c.cs
  un x := match x with
    | [.sl es] => unL c es
    | _ => none
  sz := 1
  un_cs l := unL_map c l
  cs_un x l h := by
    split at h
    · rename_i es; rw [unL_eq c _ _ h]; rfl
    · cases h
  len _ := rfl
  bl l n x hx := by
    simp [slc] at hx
    subst hx
    rw [below_sl]
    intro e he x hx
    obtain ⟨a, _, rfl⟩ := List.mem_map.1 he
    exact c.bl a n x hx
def vStr : Vc (List UInt8) where
  enc := .str
  dec x := match x with
    | .str s => some s
    | _ => none
  dec_enc _ := rfl
  enc_dec x a h := by split at h <;> cases h; rfl
def vBool : Vc Bool where
  enc := .bool
  dec x := match x with
    | .bool s => some s
    | _ => none
  dec_enc _ := rfl
  enc_dec x a h := by split at h <;> cases h; rfl
def vInt (k : IntKind) : Vc Int where
  enc := .int k
  dec x := match x with
    | .int k' n => if k' = k then some n else none
    | _ => none
  dec_enc _ := by simp
  enc_dec x a h := by
    split at h
    · split at h
      · rename_i hk; subst hk; cases h; rfl
      · cases h
    · cases h
def vSl {α : Type} (c : Cel α) : Vc (List α) where
  enc l := .sl (l.map c.cs)
  dec x := match x with
    | .sl es => unL c es
    | _ => none
  dec_enc l := unL_map c l
  enc_dec x l h := by
    split at h
    · rw [unL_eq c _ _ h]
    · cases h
def vAgg {α : Type} (c : Cel α) : Vc α where
  enc a := .agg (c.cs a)
  dec x := match x with
    | .agg es => c.un es
    | _ => none
  dec_enc l := c.un_cs l
  enc_dec x l h := by
    split at h
    · rw [c.cs_un _ _ h]
    · cases h
@[simp] theorem cStr_un (s : List UInt8) : cStr.un [.str s] = some s := rfl
@[simp] theorem cInt_un (k : IntKind) (n : Int) : (cInt k).un [.int k n] = some n := by simp [cInt]
@[simp] theorem vStr_dec (s : List UInt8) : vStr.dec (.str s) = some s := rfl
@[simp] theorem vBool_dec (s : Bool) : vBool.dec (.bool s) = some s := rfl
@[simp] theorem vInt_dec (k : IntKind) (n : Int) : (vInt k).dec (.int k n) = some n := by simp [vInt]
@[simp] theorem vSl_dec {α : Type} (c : Cel α) (es : List (List AV)) : (vSl c).dec (.sl es) = unL c es := rfl
@[simp] theorem vAgg_dec {α : Type} (c : Cel α) (es : List AV) : (vAgg c).dec (.agg es) = c.un es := rfl
@[simp] theorem unL_nil {α : Type} (c : Cel α) : unL c [] = some [] := rfl
@[simp] theorem unL_cons {α : Type} (c : Cel α) (e : List AV) (es : List (List AV)) : unL c (e :: es) = (match c.un e, unL c es with
    | some a, some l => some (a :: l)
    | _, _ => none) := rfl
@[simp] theorem unL_sc (l : List (List UInt8)) : unL cStr (l.map sc) = some l := unL_map cStr l
@[simp] theorem unL_ic (k : IntKind) (l : List Int) : unL (cInt k) (l.map (ic k)) = some l := unL_map (cInt k) l

/-! ### function tables by codes -/
def Fns.a1 {α : Type} (F : Fns) (f : FuncId) (u : Vc α) (p : α → Option AV) : Fns := F.addP f fun xs => match xs with
  | [x] => (u.dec x).bind p
  | _ => none
def Fns.a2 {α β : Type} (F : Fns) (f : FuncId) (u : Vc α) (v : Vc β) (p : α → β → Option AV) : Fns := F.addP f fun xs => match xs with
  | [x, y] => (u.dec x).bind fun a => (v.dec y).bind fun b => p a b
  | _ => none
def Fns.a3 {α β γ : Type} (F : Fns) (f : FuncId) (u : Vc α) (v : Vc β) (w : Vc γ) (p : α → β → γ → Option AV) : Fns := F.addP f fun xs => match xs with
  | [x, y, z] => (u.dec x).bind fun a => (v.dec y).bind fun b => (w.dec z).bind fun c => p a b c
  | _ => none
def Fns.a0 (F : Fns) (f : FuncId) (r : AV) : Fns := F.addP f fun xs => match xs with
  | [] => some r
  | _ => none
def Fns.a4 {α β γ δ : Type} (F : Fns) (f : FuncId) (u : Vc α) (v : Vc β) (w : Vc γ) (q : Vc δ) (p : α → β → γ → δ → Option AV) : Fns := F.addP f fun xs => match xs with
  | [x, y, z, t] => (u.dec x).bind fun a => (v.dec y).bind fun b => (w.dec z).bind fun c => (q.dec t).bind fun d => p a b c d
  | _ => none
theorem FOk.a0 {E : Env} {F : Fns} {f : FuncId} {r : AV} (h : FOk E F) (hp : ∀ s, FT E NoW f [] s r s) : FOk E (F.a0 f r) := by
  refine h.addP fun xs s r' he => ?_
  split at he
  · cases he; exact hp s
  · cases he
theorem FOk.a1 {E : Env} {F : Fns} {f : FuncId} {α : Type} {u : Vc α} {p : α → Option AV} (h : FOk E F) (hp : ∀ a s r, p a = some r → FT E NoW f [u.enc a] s r s) : FOk E (F.a1 f u p) := by
  refine h.addP fun xs s r he => ?_
  split at he
  · obtain ⟨a, h1, h2⟩ := Option.bind_eq_some_iff.1 he
    rw [u.enc_dec _ _ h1]
    exact hp a s r h2
  · cases he
theorem FOk.a2 {E : Env} {F : Fns} {f : FuncId} {α β : Type} {u : Vc α} {v : Vc β} {p : α → β → Option AV} (h : FOk E F) (hp : ∀ a b s r, p a b = some r → FT E NoW f [u.enc a, v.enc b] s r s) : FOk E (F.a2 f u v p) := by
  refine h.addP fun xs s r he => ?_
  split at he
  · obtain ⟨a, h1, he⟩ := Option.bind_eq_some_iff.1 he
    obtain ⟨b, h2, he⟩ := Option.bind_eq_some_iff.1 he
    rw [u.enc_dec _ _ h1, v.enc_dec _ _ h2]
    exact hp a b s r he
  · cases he
theorem FOk.a3 {E : Env} {F : Fns} {f : FuncId} {α β γ : Type} {u : Vc α} {v : Vc β} {w : Vc γ} {p : α → β → γ → Option AV} (h : FOk E F) (hp : ∀ a b c s r, p a b c = some r → FT E NoW f [u.enc a, v.enc b, w.enc c] s r s) : FOk E (F.a3 f u v w p) := by
  refine h.addP fun xs s r he => ?_
  split at he
  · obtain ⟨a, h1, he⟩ := Option.bind_eq_some_iff.1 he
    obtain ⟨b, h2, he⟩ := Option.bind_eq_some_iff.1 he
    obtain ⟨c, h3, he⟩ := Option.bind_eq_some_iff.1 he
    rw [u.enc_dec _ _ h1, v.enc_dec _ _ h2, w.enc_dec _ _ h3]
    exact hp a b c s r he
  · cases he
theorem FOk.a4 {E : Env} {F : Fns} {f : FuncId} {α β γ δ : Type} {u : Vc α} {v : Vc β} {w : Vc γ} {q : Vc δ} {p : α → β → γ → δ → Option AV} (h : FOk E F) (hp : ∀ a b c d s r, p a b c d = some r → FT E NoW f [u.enc a, v.enc b, w.enc c, q.enc d] s r s) : FOk E (F.a4 f u v w q p) := by
  refine h.addP fun xs s r he => ?_
  split at he
  · obtain ⟨a, h1, he⟩ := Option.bind_eq_some_iff.1 he
    obtain ⟨b, h2, he⟩ := Option.bind_eq_some_iff.1 he
    obtain ⟨c, h3, he⟩ := Option.bind_eq_some_iff.1 he
    obtain ⟨d, h4, he⟩ := Option.bind_eq_some_iff.1 he
    rw [u.enc_dec _ _ h1, v.enc_dec _ _ h2, w.enc_dec _ _ h3, q.enc_dec _ _ h4]
    exact hp a b c d s r he
  · cases he
/-- A row of data goes on as data. -/
theorem frz_sl {α : Type} (c : Cel α) {s1 : St} {n rd : Nat} {k : RK} {l : List α} {m : Nat} (hr : s1.get rd = some (.row c.sz k (l.map c.cs))) (hn : n ≤ rd) (hm : m = l.length) : Frz s1 n (.ls rd 0 m) (.sl (l.map c.cs)) := by
  have hl : m = (l.map c.cs).length := by simp [hm]
  rw [hl]
  refine .row rd c.sz k _ _ hr hn rfl (fun e he => ?_) (fun i j y hy => ⟨y, hy⟩) (fun i j x y hx hy => ?_)
  · obtain ⟨v, _, rfl⟩ := List.mem_map.1 he; exact c.len v
  · rw [hx] at hy
    obtain rfl := Option.some.inj hy
    refine .same x ?_
    unfold get2 at hx
    cases hg : (l.map c.cs)[i]? with
    | none => simp [hg] at hx
    | some e =>
      simp only [hg, Option.bind_some] at hx
      obtain ⟨a, _, rfl⟩ := List.mem_map.1 (List.mem_of_getElem? hg)
      exact c.bl a n x (List.mem_of_getElem? hx)
theorem frz_tup2 {s1 : St} {n : Nat} {x y x' y' : AV} (h1 : Frz s1 n x x') (h2 : Frz s1 n y y') : Frz s1 n (.tup [x, y]) (.tup [x', y']) :=
  .tup _ _ rfl fun i a b ha hb => by
    match i, ha, hb with
    | 0, ha, hb => simp at ha hb; subst ha; subst hb; exact h1
    | 1, ha, hb => simp at ha hb; subst ha; subst hb; exact h2
theorem frz_tup3 {s1 : St} {n : Nat} {x y z x' y' z' : AV} (h1 : Frz s1 n x x') (h2 : Frz s1 n y y') (h3 : Frz s1 n z z') : Frz s1 n (.tup [x, y, z]) (.tup [x', y', z']) :=
  .tup _ _ rfl fun i a b ha hb => by
    match i, ha, hb with
    | 0, ha, hb => simp at ha hb; subst ha; subst hb; exact h1
    | 1, ha, hb => simp at ha hb; subst ha; subst hb; exact h2
    | 2, ha, hb => simp at ha hb; subst ha; subst hb; exact h3
/-- As FT.below; what it gives may lie in what was newly laid. -/
theorem FT.below2 {E : Env} {f : FuncId} {args : List AV} {s : St} {r : AV} (hok : FnOk E.P f)
    (h : ∀ μ w vs, Rel E μ s w → VRs μ s w args vs → Calls E.P f vs w fun e w' => ∃ v, e = .returned v ∧ VR μ s w' r v ∧ Go.RowKit.Below w.heap.size w w') : FT E NoW f args s r s :=
  ⟨hok, fun μ w vs hR hv => Calls.mono (h μ w vs hR hv) fun e w' he => by
    obtain ⟨v, h1, h2, h3⟩ := he
    exact ⟨v, μ, h1, h2, hR.below h3, Fr.below hR h3⟩⟩
/-- Texts in a new block. -/
theorem vr_new_strs {E : Env} {μ : Mu} {s : St} {w w' : World} (hR : Rel E μ s w) {l : List ByteArray} {t : TypeId} {n c : Nat} {cells : Array Value} (hw : w' = w.alloc (.cells cells t)) (hn : n = l.length) (hc : n ≤ c)
    (hcell : ∀ (j : Nat) x, l[j]? = some x → cells[j]? = some (.string x)) : VR μ s w' (.sl (l.map fun x => sc x.data.toList)) (.slice (some ⟨w.heap.size, 0, none⟩) n c) := by
  subst hw
  have hl : n = (l.map fun x => sc x.data.toList).length := by simp [hn]
  rw [hl]
  have g2 : ∀ i j x, get2 (l.map fun x => sc x.data.toList) i j = some x → ∃ y, l[i]? = some y ∧ j = 0 ∧ x = .str y.data.toList := fun i j x hx => by
    unfold get2 at hx
    rw [List.getElem?_map] at hx
    cases hg : l[i]? with
    | none => simp [hg] at hx
    | some y =>
      simp only [hg, Option.map_some, Option.bind_some, sc] at hx
      cases j with
      | zero => simp at hx; exact ⟨y, rfl, rfl, hx.symm⟩
      | succ j => simp at hx
  refine .sl _ _ _ 1 (fun i _ => ((l[i]?).map Value.string).getD undef) (by simp) (fun id p hp e => ?_) (fun _ => rfl) (by rw [← hl]; exact hc) (fun x hx => ?_) (fun i j x hx => ?_) (fun i j x hx => ?_)
  · have := hR.block_lt hp
    rw [e] at this
    exact absurd this (Nat.lt_irrefl _)
  · obtain ⟨y, _, rfl⟩ := List.mem_map.1 hx; rfl
  · obtain ⟨y, hy, rfl, _⟩ := g2 i j x hx
    rw [cell_of_heap (vs := cells) (t := t) (fr := (0, 0)) (heap_new w _) rfl]
    simp only [hy, Option.map_some, Option.getD_some, Nat.zero_add, Nat.mul_one, Nat.add_zero]
    exact hcell i y hy
  · obtain ⟨y, hy, rfl, rfl⟩ := g2 i j x hx
    simp only [hy, Option.map_some, Option.getD_some]
    exact .str y
/-- Texts that are read: where they lie. -/
theorem strs_cells {μ : Mu} {s : St} {w : World} {l : List (List UInt8)} {v : Value} (h : VR μ s w (.sl (l.map sc)) v) :
    (l = [] ∧ ∃ a c, v = .slice a 0 c) ∨ ∃ b o c, v = .slice (some ⟨b, o, none⟩) l.length c ∧ l.length ≤ c ∧ b < w.heap.size ∧ ∀ (j : Nat) x, l[j]? = some x → w.cell? ⟨b, o + j, none⟩ = some (.string ⟨x.toArray⟩) := by
  generalize hX : l.map sc = X at h
  cases h with
  | slnil a => exact .inl ⟨by simpa using hX, a, 0, rfl⟩
  | sl xs a cap sz vs hb hm hsp hcap hsz hc hv =>
    subst hX
    by_cases hl0 : l = []
    · subst hl0; exact .inl ⟨rfl, some a, cap, rfl⟩
    replace hsp := hsp (by simpa using hl0)
    obtain ⟨b, o, sp⟩ := a
    simp only at hsp
    subst hsp
    refine .inr ⟨b, o, cap, by simp, by simpa using hcap, hb, fun j x hx => ?_⟩
    have hg : get2 (l.map sc) j 0 = some (.str x) := by simp [get2, hx, sc]
    have h1 := hc j 0 _ hg
    have h2 := hv j 0 _ hg
    have hs1 : sz = 1 := by
      have := hsz (sc x) (List.mem_map.2 ⟨x, List.mem_of_getElem? hx, rfl⟩)
      simpa [sc] using this.symm
    subst hs1
    generalize vs j 0 = u at h1 h2
    cases h2
    have e : (⟨b, o, none⟩ : Addr).add (j * 1 + 0) = ⟨b, o + j, none⟩ := by
      unfold Addr.add
      cases j with
      | zero => rfl
      | succ j => simp
    rw [e] at h1
    rw [h1]
/-- What a function without arguments gives does not hang on the state. -/
theorem FT.closed {E : Env} {f : FuncId} {b : Bool} (h : FT E NoW f [] ⟨0, fun _ => none⟩ (.bool b) ⟨0, fun _ => none⟩) (s : St) : FT E NoW f [] s (.bool b) s := by
  refine FT.below h.1 fun μ w vs hR hv => ?_
  have hs : vs.size = 0 := by rw [← hv.1]; rfl
  obtain rfl : vs = #[] := Array.eq_empty_of_size_eq_zero hs
  have hR0 : Rel E (fun _ => none) ⟨0, fun _ => none⟩ w := ⟨fun i p h => (by cases h), fun i j p q h => (by cases h), fun i p h => (by cases h), hR.gl, hR.size, hR.tape, hR.os⟩
  refine Calls.mono (h.2 _ w #[] hR0 ⟨rfl, fun i x v hx => by simp at hx⟩) fun e w' he => ?_
  obtain ⟨v, μ', he, h1, h2, h3⟩ := he
  refine ⟨v, he, ?_, h3.os, h3.tape, h3.output, h3.size, fun k hk => h3.blocks k hk fun id p _ hp => by cases hp⟩
  cases h1
  exact .bool b
end Go.Am
namespace Go.Am
section
variable {C : Cx} {F : Fns} {ops : Array Oper}
/-- The same call's frame, at another world. -/
def Cx.at (C : Cx) (μ : Mu) (s0 : St) (w : World) : Cx := ⟨C.E, C.n0, C.W, C.nt, μ, s0, w⟩
theorem RS_mono {k k' : Slots → St → Prop} (h : ∀ T s, k T s → k' T s) : ∀ (l : List Oper) (T : Slots) (s : St), RS C F ops l T s k → RS C F ops l T s k' := by
  intro l
  induction l with
  | nil => intro T s hk; rw [RS_nil] at hk ⊢; exact h _ _ hk
  | cons o l ih =>
    intro T s hk
    rw [RS_cons] at hk ⊢
    unfold onW at hk ⊢
    split at hk
    · unfold onV at hk ⊢
      split at hk
      · exact ⟨hk.1, ih _ _ hk.2⟩
      · exact hk.elim
    · exact ih _ _ hk
    · exact hk.elim
theorem RS_pin {k : Slots → St → Prop} : ∀ (l : List Oper) (T : Slots) (s : St), RS C F ops l T s k → ∃ T1 s1, k T1 s1 ∧ ∀ μ s0 w, RS (C.at μ s0 w) F ops l T s fun T' s' => T' = T1 ∧ s' = s1 := by
  intro l
  induction l with
  | nil => intro T s hk; rw [RS_nil] at hk; exact ⟨T, s, hk, fun μ s0 w => by rw [RS_nil]; exact ⟨rfl, rfl⟩⟩
  | cons o l ih =>
    intro T s hk
    rw [RS_cons] at hk
    unfold onW at hk
    split at hk
    · rename_i hw
      unfold onV at hk
      split at hk
      · rename_i r s' ids hx
        obtain ⟨T1, s1, h1, h2⟩ := ih _ _ hk.2
        refine ⟨T1, s1, h1, fun μ s0 w => ?_⟩
        rw [RS_cons, hw]
        show onV (xop C.E F _ _ _ _) _
        rw [hx]
        exact ⟨hk.1, h2 μ s0 w⟩
      · exact hk.elim
    · rename_i hw
      obtain ⟨T1, s1, h1, h2⟩ := ih _ _ hk
      refine ⟨T1, s1, h1, fun μ s0 w => ?_⟩
      rw [RS_cons, hw]
      exact h2 μ s0 w
    · exact hk.elim
theorem RQ_mono {m : Nat} {k k' : Slots → St → Prop} (h : ∀ T s, k T s → k' T s) : ∀ (l : List Oper) (i : Nat) (T : Slots) (s : St), RQ C F ops m i l T s k → RQ C F ops m i l T s k' := by
  intro l
  induction l with
  | nil => intro i T s hk; rw [RQ_nil] at hk ⊢; exact h _ _ hk
  | cons o l ih =>
    intro i T s hk
    rw [RQ_cons] at hk ⊢
    unfold onW at hk ⊢
    split at hk
    · unfold onV at hk ⊢
      split at hk
      · exact ⟨hk.1, hk.2.1, ih _ _ _ hk.2.2⟩
      · exact hk.elim
    · exact ih _ _ _ hk
    · exact hk.elim
theorem RQ_pin {m : Nat} {k : Slots → St → Prop} : ∀ (l : List Oper) (i : Nat) (T : Slots) (s : St), RQ C F ops m i l T s k → ∃ T1 s1, k T1 s1 ∧ ∀ μ s0 w, RQ (C.at μ s0 w) F ops m i l T s fun T' s' => T' = T1 ∧ s' = s1 := by
  intro l
  induction l with
  | nil => intro i T s hk; rw [RQ_nil] at hk; exact ⟨T, s, hk, fun μ s0 w => by rw [RQ_nil]; exact ⟨rfl, rfl⟩⟩
  | cons o l ih =>
    intro i T s hk
    rw [RQ_cons] at hk
    unfold onW at hk
    split at hk
    · rename_i hw
      unfold onV at hk
      split at hk
      · rename_i r s' ids hx
        obtain ⟨T1, s1, h1, h2⟩ := ih _ _ _ hk.2.2
        refine ⟨T1, s1, h1, fun μ s0 w => ?_⟩
        rw [RQ_cons, hw]
        show onV (xop C.E F _ _ _ _) _
        rw [hx]
        exact ⟨hk.1, hk.2.1, h2 μ s0 w⟩
      · exact hk.elim
    · rename_i hw
      obtain ⟨T1, s1, h1, h2⟩ := ih _ _ _ hk
      refine ⟨T1, s1, h1, fun μ s0 w => ?_⟩
      rw [RQ_cons, hw]
      exact h2 μ s0 w
    · exact hk.elim
theorem RW_mono {b : Nat} {m : Nat} {P : St → Prop} {k k' : Slots → St → Prop} (h : ∀ T s, k T s → k' T s) : ∀ (l : List Oper) (i : Nat) (T : Slots) (s : St), RW b C F ops m P i l T s k → RW b C F ops m P i l T s k' := by
  intro l
  induction l with
  | nil => intro i T s hk; rw [RW_nil] at hk ⊢; exact ⟨hk.1, h _ _ hk.2⟩
  | cons o l ih =>
    intro i T s hk
    rw [RW_cons] at hk ⊢
    refine ⟨hk.1, ?_⟩
    replace hk := hk.2
    unfold onW at hk ⊢
    split at hk
    · unfold onV at hk ⊢
      split at hk
      · exact ⟨hk.1, hk.2.1, hk.2.2.1, ih _ _ _ hk.2.2.2⟩
      · exact hk.elim
    · exact ih _ _ _ hk
    · exact hk.elim
theorem RW_pin {b : Nat} {m : Nat} {P : St → Prop} {k : Slots → St → Prop} : ∀ (l : List Oper) (i : Nat) (T : Slots) (s : St), RW b C F ops m P i l T s k → ∃ T1 s1, k T1 s1 ∧ ∀ μ s0 w, RW b (C.at μ s0 w) F ops m P i l T s fun T' s' => T' = T1 ∧ s' = s1 := by
  intro l
  induction l with
  | nil => intro i T s hk; rw [RW_nil] at hk; exact ⟨T, s, hk.2, fun μ s0 w => by rw [RW_nil]; exact ⟨hk.1, rfl, rfl⟩⟩
  | cons o l ih =>
    intro i T s hk
    rw [RW_cons] at hk
    have hp := hk.1
    replace hk := hk.2
    unfold onW at hk
    split at hk
    · rename_i hw
      unfold onV at hk
      split at hk
      · rename_i r s' ids hx
        obtain ⟨T1, s1, h1, h2⟩ := ih _ _ _ hk.2.2.2
        refine ⟨T1, s1, h1, fun μ s0 w => ?_⟩
        rw [RW_cons, hw]
        refine ⟨hp, ?_⟩
        show onV (xop C.E F _ _ _ _) _
        rw [hx]
        exact ⟨hk.1, hk.2.1, hk.2.2.1, h2 μ s0 w⟩
      · exact hk.elim
    · rename_i hw
      obtain ⟨T1, s1, h1, h2⟩ := ih _ _ _ hk
      refine ⟨T1, s1, h1, fun μ s0 w => ?_⟩
      rw [RW_cons, hw]
      exact ⟨hp, h2 μ s0 w⟩
    · exact hk.elim
end
section
variable {C : Cx} {F : Fns}
theorem tQ_mono {N N' : Slots → St → Prop} {Q Q' : Exit → Slots → St → Prop} (h1 : ∀ T s, N T s → N' T s) (h2 : ∀ e T s, Q e T s → Q' e T s) : ∀ e T s, tQ N Q e T s → tQ N' Q' e T s := by
  intro e T s h
  by_cases he : e = .normal
  · subst he; rw [tQ_n] at h ⊢; exact h1 _ _ h
  · rw [tQ_o he] at h ⊢; exact h2 _ _ _ h
theorem bQ_mono {id : Nat} {Q Q' : Exit → Slots → St → Prop} (h2 : ∀ e T s, Q e T s → Q' e T s) : ∀ e T s, bQ id Q e T s → bQ id Q' e T s := by
  intro e T s h
  by_cases he : e = .exit id
  · subst he; rw [bQ_e] at h ⊢; exact h2 _ _ _ h
  · rw [bQ_o he] at h ⊢; exact h2 _ _ _ h
theorem WP_mono : ∀ (c : Code) (Q Q' : Exit → Slots → St → Prop) (T : Slots) (s : St), (∀ e T s, Q e T s → Q' e T s) → WP C F c Q T s → WP C F c Q' T s := by
  intro c
  induction c with
  | skip => intro Q Q' T s h hw; rw [WP_skip] at hw ⊢; exact h _ _ _ hw
  | region id ops draw =>
    intro Q Q' T s h hw
    cases draw with
    | false => rw [WP_regf] at hw ⊢; exact RS_mono (fun T s => h _ T s) _ _ _ hw
    | true =>
      rw [WP_regt] at hw ⊢
      rcases hw with hw | ⟨b, h1, P, hw⟩
      · exact .inl (RQ_mono (fun T s => h _ T s) _ _ _ _ hw)
      · exact .inr ⟨b, h1, P, RW_mono (fun T s => h _ T s) _ _ _ _ hw⟩
  | seq x y ihx ihy =>
    intro Q Q' T s h hw
    rw [WP_seq] at hw ⊢
    obtain ⟨T', s', g, hw⟩ := hw
    exact ⟨T', s', g, ihx _ _ _ _ (tQ_mono (fun T s hy => ihy _ _ _ _ h hy) h) hw⟩
  | cond c x y ihx ihy =>
    intro Q Q' T s h hw
    rw [WP_cond] at hw ⊢
    unfold onB at hw ⊢
    split at hw
    · exact ihx _ _ _ _ h hw
    · exact ihy _ _ _ _ h hw
    · exact hw.elim
  | block id c ih => intro Q Q' T s h hw; rw [WP_block] at hw ⊢; exact ih _ _ _ _ (bQ_mono h) hw
  | loop c ih =>
    intro Q Q' T s h hw
    rw [WP_loop_def] at hw ⊢
    obtain ⟨I, n, h0, hw⟩ := hw
    exact ⟨I, n, h0, fun n T s hI => ih _ _ _ _ (tQ_mono (fun _ _ h => h) h) (hw n T s hI)⟩
  | exit id => intro Q Q' T s h hw; rw [WP_exit] at hw ⊢; exact h _ _ _ hw
  | label l => intro Q Q' T s h hw; rw [WP_label] at hw ⊢; exact h _ _ _ hw
  | ret => intro Q Q' T s h hw; rw [WP_ret] at hw ⊢; exact h _ _ _ hw
  | _ => intro Q Q' T s h hw; exact (WP_other rfl hw).elim
/-- The code ends at one place, whatever the world. -/
theorem WP_pin : ∀ (c : Code) (Q : Exit → Slots → St → Prop) (T : Slots) (s : St), WP C F c Q T s →
    ∃ e T1 s1, Q e T1 s1 ∧ ∀ μ s0 w, WP (C.at μ s0 w) F c (fun e' T' s' => e' = e ∧ T' = T1 ∧ s' = s1) T s := by
  intro c
  induction c with
  | skip => intro Q T s h; rw [WP_skip] at h; exact ⟨_, _, _, h, fun μ s0 w => by rw [WP_skip]; exact ⟨rfl, rfl, rfl⟩⟩
  | region id ops draw =>
    intro Q T s h
    cases draw with
    | false =>
      rw [WP_regf] at h
      obtain ⟨T1, s1, h1, h2⟩ := RS_pin _ _ _ h
      exact ⟨_, T1, s1, h1, fun μ s0 w => by rw [WP_regf]; exact RS_mono (fun T s h => ⟨rfl, h⟩) _ _ _ (h2 μ s0 w)⟩
    | true =>
      rw [WP_regt] at h
      rcases h with h | ⟨b, h0, P, h⟩
      · obtain ⟨T1, s1, h1, h2⟩ := RQ_pin _ _ _ _ h
        exact ⟨_, T1, s1, h1, fun μ s0 w => by rw [WP_regt]; exact .inl (RQ_mono (fun T s h => ⟨rfl, h⟩) _ _ _ _ (h2 μ s0 w))⟩
      · obtain ⟨T1, s1, h1, h2⟩ := RW_pin _ _ _ _ h
        exact ⟨_, T1, s1, h1, fun μ s0 w => by rw [WP_regt]; exact .inr ⟨b, h0, P, RW_mono (fun T s h => ⟨rfl, h⟩) _ _ _ _ (h2 μ s0 w)⟩⟩
  | seq x y ihx ihy =>
    intro Q T s h
    rw [WP_seq] at h
    obtain ⟨T', s', g, h⟩ := h
    obtain ⟨e, T1, s1, h1, h2⟩ := ihx _ _ _ h
    by_cases he : e = .normal
    · subst he
      rw [tQ_n] at h1
      obtain ⟨e, T2, s2, h3, h4⟩ := ihy _ _ _ h1
      refine ⟨e, T2, s2, h3, fun μ s0 w => ?_⟩
      rw [WP_seq]
      refine ⟨T', s', g, WP_mono _ _ _ _ _ (fun e' T s h => ?_) (h2 μ s0 w)⟩
      obtain ⟨rfl, rfl, rfl⟩ := h
      rw [tQ_n]
      exact h4 μ s0 w
    · rw [tQ_o he] at h1
      refine ⟨e, T1, s1, h1, fun μ s0 w => ?_⟩
      rw [WP_seq]
      refine ⟨T', s', g, WP_mono _ _ _ _ _ (fun e' T s h => ?_) (h2 μ s0 w)⟩
      obtain ⟨rfl, rfl, rfl⟩ := h
      rw [tQ_o he]
      exact ⟨rfl, rfl, rfl⟩
  | cond c x y ihx ihy =>
    intro Q T s h
    rw [WP_cond] at h
    unfold onB at h
    split at h
    · rename_i hc
      obtain ⟨e, T1, s1, h1, h2⟩ := ihx _ _ _ h
      refine ⟨e, T1, s1, h1, fun μ s0 w => ?_⟩
      rw [WP_cond]
      show onB (ev C.E T c) _ _
      rw [hc]; exact h2 μ s0 w
    · rename_i hc
      obtain ⟨e, T1, s1, h1, h2⟩ := ihy _ _ _ h
      refine ⟨e, T1, s1, h1, fun μ s0 w => ?_⟩
      rw [WP_cond]
      show onB (ev C.E T c) _ _
      rw [hc]; exact h2 μ s0 w
    · exact h.elim
  | block id c ih =>
    intro Q T s h
    rw [WP_block] at h
    obtain ⟨e, T1, s1, h1, h2⟩ := ih _ _ _ h
    by_cases he : e = .exit id
    · subst he
      rw [bQ_e] at h1
      refine ⟨_, T1, s1, h1, fun μ s0 w => ?_⟩
      rw [WP_block]
      refine WP_mono _ _ _ _ _ (fun e' T s h => ?_) (h2 μ s0 w)
      obtain ⟨rfl, rfl, rfl⟩ := h
      rw [bQ_e]; exact ⟨rfl, rfl, rfl⟩
    · rw [bQ_o he] at h1
      refine ⟨_, T1, s1, h1, fun μ s0 w => ?_⟩
      rw [WP_block]
      refine WP_mono _ _ _ _ _ (fun e' T s h => ?_) (h2 μ s0 w)
      obtain ⟨rfl, rfl, rfl⟩ := h
      rw [bQ_o he]; exact ⟨rfl, rfl, rfl⟩
  | loop c ih =>
    intro Q T s h
    rw [WP_loop_def] at h
    obtain ⟨I, n, h0, h⟩ := h
    induction n using Nat.strongRecOn generalizing T s with
    | _ n ihn =>
      obtain ⟨e, T1, s1, h1, h2⟩ := ih _ _ _ (h n T s h0)
      by_cases he : e = .normal
      · subst he
        rw [tQ_n] at h1
        obtain ⟨n', hn, h1⟩ := h1
        obtain ⟨e, T2, s2, h3, h4⟩ := ihn n' hn _ _ h1
        refine ⟨e, T2, s2, h3, fun μ s0 w => ?_⟩
        replace h4 := h4 μ s0 w
        rw [WP_loop_def] at h4 ⊢
        obtain ⟨J, m, hJ, h4⟩ := h4
        refine ⟨fun k T' s' => (k = m + 1 ∧ T' = T ∧ s' = s) ∨ (k ≤ m ∧ J k T' s'), m + 1, .inl ⟨rfl, rfl, rfl⟩, fun k T' s' hk => ?_⟩
        rcases hk with ⟨rfl, rfl, rfl⟩ | ⟨hk, hJk⟩
        · refine WP_mono _ _ _ _ _ (fun e' T s h => ?_) (h2 μ s0 w)
          obtain ⟨rfl, rfl, rfl⟩ := h
          rw [tQ_n]
          exact ⟨m, by omega, .inr ⟨Nat.le_refl _, hJ⟩⟩
        · refine WP_mono _ _ _ _ _ (tQ_mono (fun T s h => ?_) fun _ _ _ h => h) (h4 k _ _ hJk)
          obtain ⟨n', h5, h6⟩ := h
          exact ⟨n', h5, .inr ⟨by omega, h6⟩⟩
      · rw [tQ_o he] at h1
        refine ⟨_, T1, s1, h1, fun μ s0 w => ?_⟩
        rw [WP_loop_def]
        refine ⟨fun k T' s' => k = 0 ∧ T' = T ∧ s' = s, 0, ⟨rfl, rfl, rfl⟩, fun k T' s' hk => ?_⟩
        obtain ⟨rfl, rfl, rfl⟩ := hk
        refine WP_mono _ _ _ _ _ (fun e' T s h => ?_) (h2 μ s0 w)
        obtain ⟨rfl, rfl, rfl⟩ := h
        rw [tQ_o he]; exact ⟨rfl, rfl, rfl⟩
  | exit id => intro Q T s h; rw [WP_exit] at h; exact ⟨_, _, _, h, fun μ s0 w => by rw [WP_exit]; exact ⟨rfl, rfl, rfl⟩⟩
  | label l => intro Q T s h; rw [WP_label] at h; exact ⟨_, _, _, h, fun μ s0 w => by rw [WP_label]; exact ⟨rfl, rfl, rfl⟩⟩
  | ret => intro Q T s h; rw [WP_ret] at h; exact ⟨_, _, _, h, fun μ s0 w => by rw [WP_ret]; exact ⟨rfl, rfl, rfl⟩⟩
  | _ => intro Q T s h; exact (WP_other rfl h).elim

/-- A function that leaves something: its end is found on the walk. -/
theorem FT.ownE {E : Env} {F : Fns} {f : FuncId} {fn : Func} {c : Code} {args : List AV} {nt : Nat} {rs : Array ResultVar} {s : St} {W : Nat → Prop} {Post : AV → St → Prop} (w0 : World) (hF : FOk E F) (hm : E.P.follows .mixedOrders = true) (hf : E.P.funcs[f]? = some fn)
    (hname : (fn.name == "runtime.NumGoroutine") = false) (hb : fn.body = some c) (hnt : fn.ntmps = nt) (hrs : fn.results = rs) (hl : args.length ≤ nt) (hs : statOk nt c = true)
    (h : ∀ μ w, WP ⟨E, s.nx, W, nt, μ, s, w⟩ F c (fun e T s1 => ∃ r s', FinW E rs W s r s' e T s1 ∧ Post r s') (T0 0 args) s) : ∃ r s', FT E W f args s r s' ∧ Post r s' := by
  obtain ⟨e, T1, s1, ⟨r, s', h1, h2⟩, h3⟩ := WP_pin _ _ _ _ (h (fun _ => none) w0)
  refine ⟨r, s', FT.own hF hm hf hname hb hnt hrs hl hs fun μ w => WP_mono _ _ _ _ _ (fun e' T s h => ?_) (h3 μ s w), h2⟩
  obtain ⟨rfl, rfl, rfl⟩ := h
  exact h1
theorem Below.up {n m : Nat} (h : n ≤ m) {x : AV} (hb : Below n x) : Below m x := by
  induction hb with
  | junk => exact .junk
  | bool b => exact .bool b
  | int k i => exact .int k i
  | str s => exact .str s
  | agg cs _ ih => exact .agg cs ih
  | tup cs _ ih => exact .tup cs ih
  | sl xs _ ih => exact .sl xs ih
  | nsl => exact .nsl
  | np => exact .np
  | ptr i o hi => exact .ptr i o (by omega)
  | ep i j o hi => exact .ep i j o (by omega)
  | ls i j k hi => exact .ls i j k (by omega)
  | nmap => exact .nmap
  | map i hi => exact .map i (by omega)
  | nfn => exact .nfn
  | fn f a b h1 h2 ih1 ih2 => exact .fn f a b ih1 ih2
  | nif => exact .nif
  | it i hi => exact .it i (by omega)
  | ifc t x _ ih => exact .ifc t x ih
  | rp cs _ ih => exact .rp cs ih
theorem OBelow.up {n m : Nat} (h : n ≤ m) {o : AObj} (hb : OBelow n o) : OBelow m o := by
  cases hb with
  | var ty cs hb => exact .var ty cs fun i x hx => (hb i x hx).up h
  | row sz wr es hb => exact .row sz wr es fun i j x hx => (hb i j x hx).up h
  | map es hb => exact .map es fun i x hx => ⟨(hb i x hx).1.up h, (hb i x hx).2.up h⟩
  | siter str pos => exact .siter str pos
/-- What was done to a state: nothing but this was written, and what lies there hangs on nothing unknown. -/
structure Eff (l : List Nat) (s s1 : St) : Prop where
  nx : s.nx ≤ s1.nx
  same : ∀ id, id < s.nx → id ∉ l → s1.get id = s.get id
  ob : ∀ id, id < s1.nx → id ∈ l ∨ s.nx ≤ id → ∀ o, s1.get id = some o → OBelow s1.nx o
def Own (s : St) (l : List Nat) : Prop := ∀ i ∈ l, i < s.nx ∧ ∀ o, s.get i = some o → OBelow s.nx o
theorem Eff.refl {l : List Nat} {s : St} (h : Own s l) : Eff l s s := ⟨Nat.le_refl _, fun _ _ _ => rfl, fun id h1 h2 o ho => by
  rcases h2 with h2 | h2
  · exact (h id h2).2 o ho
  · omega⟩
theorem Eff.nil {s : St} : Eff [] s s := Eff.refl fun i h => by cases h
theorem Eff.trans {l l1 : List Nat} {s s1 s2 : St} (h : Eff l s s1) (h1 : Eff l1 s1 s2) (hl : ∀ i ∈ l1, i ∈ l ∨ s.nx ≤ i) : Eff l s s2 where
  nx := Nat.le_trans h.nx h1.nx
  same := fun id hi hn => by
    have := h.nx
    rw [h1.same id (by omega) fun hm => ?_, h.same id hi hn]
    rcases hl id hm with h2 | h2
    · exact hn h2
    · omega
  ob := fun id hi hw o ho => by
    have hn := h.nx
    by_cases hm : id ∈ l1 ∨ s1.nx ≤ id
    · exact h1.ob id hi hm o ho
    · have h3 : id < s1.nx := Nat.lt_of_not_le fun h => hm (.inr h)
      rw [h1.same id h3 fun h => hm (.inl h)] at ho
      exact (h.ob id h3 hw o ho).up h1.nx
theorem Eff.mono {l l' : List Nat} {s s1 : St} (h : Eff l s s1) (ho : Own s l') (hl : ∀ i ∈ l, i ∈ l') : Eff l' s s1 where
  nx := h.nx
  same := fun id hi hn => h.same id hi fun hm => hn (hl id hm)
  ob := fun id hi hw o hg => by
    by_cases hm : id ∈ l ∨ s.nx ≤ id
    · exact h.ob id hi hm o hg
    · have h3 : id < s.nx := Nat.lt_of_not_le fun h => hm (.inr h)
      rw [h.same id h3 fun h => hm (.inl h)] at hg
      rcases hw with hw | hw
      · exact ((ho id hw).2 o hg).up h.nx
      · omega
theorem Own.eff {l l' l2 : List Nat} {s s1 : St} (h : Eff l s s1) (ho : Own s l2) (hl : ∀ i ∈ l', i ∈ l ∨ i ∈ l2 ∨ (s.nx ≤ i ∧ i < s1.nx)) (hb : ∀ i ∈ l, i < s.nx) : Own s1 l' := fun i hi => by
  have hn := h.nx
  rcases hl i hi with h1 | h1 | h1
  · exact ⟨by have := hb i h1; omega, h.ob i (by have := hb i h1; omega) (.inl h1)⟩
  · have h2 := ho i h1
    refine ⟨by omega, fun o hg => ?_⟩
    by_cases hm : i ∈ l
    · exact h.ob i (by omega) (.inl hm) o hg
    · rw [h.same i h2.1 hm] at hg
      exact (h2.2 o hg).up hn
  · exact ⟨h1.2, h.ob i h1.2 (.inr h1.1)⟩
theorem Own.cons {s : St} {i : Nat} {l : List Nat} (h1 : i < s.nx) (h2 : ∀ o, s.get i = some o → OBelow s.nx o) (h : Own s l) : Own s (i :: l) := fun j hj => by
  rcases List.mem_cons.1 hj with rfl | hj
  · exact ⟨h1, h2⟩
  · exact h j hj
theorem Own.nil {s : St} : Own s [] := fun i h => by cases h
theorem Own.sub {s : St} {l l' : List Nat} (h : Own s l) (hl : ∀ i ∈ l', i ∈ l) : Own s l' := fun i hi => h i (hl i hi)
theorem Eff.push {l : List Nat} {s s1 : St} (h : Eff l s s1) {o : AObj} (ho : OBelow (s1.nx + 1) o) : Eff l s (s1.push o) where
  nx := by have := h.nx; simp; omega
  same := fun id hi hn => by
    have := h.nx
    rw [St.get_push, if_neg (by omega)]
    exact h.same id hi hn
  ob := fun id hi hw o' hg => by
    rw [St.get_push] at hg
    split at hg
    · cases hg; exact ho
    · simp only [St.nx_push] at hi
      exact (h.ob id (by omega) hw o' hg).up (by simp)
theorem Eff.put {l : List Nat} {s s1 : St} (h : Eff l s s1) {id : Nat} {o : AObj} (hi : id ∈ l ∨ s.nx ≤ id) (ho : OBelow s1.nx o) : Eff l s (s1.put id o) where
  nx := h.nx
  same := fun j hj hn => by
    rw [St.get_put, if_neg (fun e => by subst e; rcases hi with h | h; exact hn h; omega)]
    exact h.same j hj hn
  ob := fun j hj hw o' hg => by
    rw [St.get_put] at hg
    split at hg
    · cases hg; exact ho
    · exact h.ob j hj hw o' hg
theorem Eff.drop {l : List Nat} {s s1 : St} (h : Eff l s s1) {id : Nat} (hi : id ∈ l ∨ s.nx ≤ id) : Eff l s (s1.drop id) where
  nx := h.nx
  same := fun j hj hn => by
    rw [St.get_drop, if_neg (fun e => by subst e; rcases hi with h | h; exact hn h; omega)]
    exact h.same j hj hn
  ob := fun j hj hw o' hg => by
    rw [St.get_drop] at hg
    split at hg
    · cases hg
    · exact h.ob j hj hw o' hg
/-- The end of a walk that leaves something. -/
structure FinE (E : Env) (rs : Array ResultVar) (l : List Nat) (s0 : St) (Post : AV → St → Prop) (e : Exit) (T : Slots) (s1 : St) : Prop where
  exit : e = .normal ∨ e = .ret
  res : ∃ r, ares E T s1 rs = some r ∧ Below s1.nx r ∧ Post r s1
  eff : Eff l s0 s1
theorem FT.eff {E : Env} {F : Fns} {f : FuncId} {fn : Func} {c : Code} {args : List AV} {nt : Nat} {rs : Array ResultVar} {s : St} {l : List Nat} {Post : AV → St → Prop} (w0 : World) (hF : FOk E F) (hm : E.P.follows .mixedOrders = true) (hf : E.P.funcs[f]? = some fn)
    (hname : (fn.name == "runtime.NumGoroutine") = false) (hb : fn.body = some c) (hnt : fn.ntmps = nt) (hrs : fn.results = rs) (hl : args.length ≤ nt) (hs : statOk nt c = true)
    (h : ∀ μ w, WP ⟨E, s.nx, (fun i => i ∈ l), nt, μ, s, w⟩ F c (FinE E rs l s Post) (T0 0 args) s) : ∃ r s', FT E (fun i => i ∈ l) f args s r s' ∧ Eff l s s' ∧ Below s'.nx r ∧ Post r s' := by
  refine (FT.ownE (Post := fun r s' => Eff l s s' ∧ Below s'.nx r ∧ Post r s') w0 hF hm hf hname hb hnt hrs hl hs fun μ w => WP_mono _ _ _ _ _ (fun e T s1 h => ?_) (h μ w)).imp fun r h => h.imp fun s' h => h
  obtain ⟨r, h1, h2, h3⟩ := h.res
  exact ⟨r, s1, ⟨h.exit, h1, h2, h.eff.nx, Nat.le_refl _, fun _ => ⟨fun _ _ => rfl, h.eff.ob⟩⟩, h.eff, h2, h3⟩
theorem FT.wider {E : Env} {W W' : Nat → Prop} {f : FuncId} {xs : List AV} {s s' : St} {r : AV} (h : FT E W f xs s r s') (hw : ∀ i, W i → W' i) : FT E W' f xs s r s' :=
  ⟨h.1, fun μ w vs hR hv => Calls.mono (h.2 μ w vs hR hv) fun e w' he => by
    obtain ⟨v, μ', h1, h2, h3, h4⟩ := he
    exact ⟨v, μ', h1, h2, h3, h4.weaken fun id hm => hm.imp (hw id) fun h => h⟩⟩
open Classical in
/-- A function by what is known of its ends. -/
noncomputable def Fns.ch (F : Fns) (E : Env) (f : FuncId) (P : List AV → St → AV → St → List Nat → Prop) : Fns := fun f' xs s => if f' = f then
  (if h : ∃ p : AV × St × List Nat, FT E (fun i => i ∈ p.2.2) f xs s p.1 p.2.1 ∧ P xs s p.1 p.2.1 p.2.2 then some h.choose else none) else F f' xs s
theorem FOk.ch {E : Env} {F : Fns} {f : FuncId} {P : List AV → St → AV → St → List Nat → Prop} (h : FOk E F) : FOk E (F.ch E f P) := fun f' xs s r s' l he => by
  unfold Fns.ch at he
  split at he
  · rename_i hf
    subst hf
    split at he
    · rename_i hx
      have hs := hx.choose_spec
      rw [Option.some.inj he] at hs
      exact .inl hs.1
    · cases he
  · exact h _ _ _ _ _ _ he
theorem Fns.ch_other {F : Fns} {E : Env} {f f' : FuncId} {P : List AV → St → AV → St → List Nat → Prop} {xs : List AV} {s : St} (h : f' ≠ f) : F.ch E f P f' xs s = F f' xs s := if_neg h
theorem Fns.ch_some {F : Fns} {E : Env} {f : FuncId} {P : List AV → St → AV → St → List Nat → Prop} {xs : List AV} {s : St} {r : AV} {s' : St} {l : List Nat} (h : FT E (fun i => i ∈ l) f xs s r s') (hp : P xs s r s' l) :
    ∃ r s' l, F.ch E f P f xs s = some (r, s', l) ∧ P xs s r s' l := by
  have hx : ∃ p : AV × St × List Nat, FT E (fun i => i ∈ p.2.2) f xs s p.1 p.2.1 ∧ P xs s p.1 p.2.1 p.2.2 := ⟨(r, s', l), h, hp⟩
  refine ⟨hx.choose.1, hx.choose.2.1, hx.choose.2.2, ?_, hx.choose_spec.2⟩
  unfold Fns.ch
  rw [if_pos rfl, dif_pos hx]
end
end Go.Am
