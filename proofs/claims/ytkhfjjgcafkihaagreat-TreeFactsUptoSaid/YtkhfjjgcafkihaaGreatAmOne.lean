/- Part of the proof: abstract values over the given model of Go (AmA, AmB, AmC, AmD, AmE, AmF, AmG, AmH). Conditions: none of its own; see the statement in the seat's Rows text. -/
import Derived.Calls
import Derived.Orders
import Derived.Below
import Derived.Laws.Sem
import Derived.Laws.World
import Derived.Laws.Cells
import Derived.Laws.Slices
import Derived.Laws.Append
import Derived.Deep.AppendSrc
import Derived.Laws.StructEq
import GoSem.Dispatch
set_option linter.unusedSimpArgs false
set_option linter.unusedVariables false
set_option linter.unusedSectionVars false
namespace Go.Am

/-- Abstract values: deep read-only data by value, own mutable objects by number. -/
inductive AV where
  | junk
  | bool (b : Bool)
  | int (k : IntKind) (n : Int)
  | str (s : List UInt8)
  | agg (cs : List AV)
  | tup (vs : List AV)
  | sl (xs : List (List AV))
  | nsl
  | rp (cs : List AV)
  | np
  | ptr (id off : Nat)
  | ep (id i j : Nat)
  | ls (id off len : Nat)
  | map (id : Nat)
  | nmap
  | fn (f : Fn) (a b : List AV)
  | nfn
  | ifc (t : TypeId) (v : AV)
  | nif
  | it (id : Nat)
  deriving Inhabited

/-- Of a row: whether it may be written; its elements' type. -/
abbrev RK := Bool × TypeId
/-- Objects of the call's own. -/
inductive AObj where
  | var (ty : TypeId) (cs : List AV)
  | row (sz : Nat) (wr : RK) (es : List (List AV))
  | map (es : List (AV × AV))
  | siter (s : List UInt8) (pos : Nat)

inductive Shape where
  | var (n : Nat) | row (sz : Nat) | map | siter
  deriving DecidableEq
def AObj.shape : AObj → Shape
  | .var _ cs => .var cs.length
  | .row sz _ _ => .row sz
  | .map _ => .map
  | .siter _ _ => .siter

structure St where
  nx : Nat
  get : Nat → Option AObj
def St.put (s : St) (id : Nat) (o : AObj) : St := { s with get := fun j => if j = id then some o else s.get j }
def St.push (s : St) (o : AObj) : St := { nx := s.nx + 1, get := fun j => if j = s.nx then some o else s.get j }
def St.drop (s : St) (id : Nat) : St := { s with get := fun j => if j = id then none else s.get j }

@[simp] theorem St.nx_put (s : St) (id : Nat) (o : AObj) : (s.put id o).nx = s.nx := rfl
@[simp] theorem St.nx_push (s : St) (o : AObj) : (s.push o).nx = s.nx + 1 := rfl
@[simp] theorem St.nx_drop (s : St) (id : Nat) : (s.drop id).nx = s.nx := rfl
theorem St.get_put (s : St) (id j : Nat) (o : AObj) : (s.put id o).get j = if j = id then some o else s.get j := rfl
theorem St.get_push (s : St) (j : Nat) (o : AObj) : (s.push o).get j = if j = s.nx then some o else s.get j := rfl
theorem St.get_drop (s : St) (id j : Nat) : (s.drop id).get j = if j = id then none else s.get j := rfl
@[simp] theorem St.get_put_same (s : St) (id : Nat) (o : AObj) : (s.put id o).get id = some o := by simp [St.put]
@[simp] theorem St.get_push_same (s : St) (o : AObj) : (s.push o).get s.nx = some o := by simp [St.push]

/-- Where an object lies: its first cell's address, and how many cells it may use. -/
abbrev Mu := Nat → Option (Addr × Nat)

def get2 {α : Type} (xs : List (List α)) (i j : Nat) : Option α := (xs[i]?).bind (·[j]?)

/-- No object of the call's own lies in this block. -/
def Mu.free (μ : Mu) (b : Nat) : Prop := ∀ id p, μ id = some p → p.1.block ≠ b

/-- What an abstract value says of a value, in a world. -/
inductive VR (μ : Mu) (s : St) (w : World) : AV → Value → Prop
  | junk (v : Value) : VR μ s w .junk v
  | bool (b : Bool) : VR μ s w (.bool b) (.bool b)
  | int (k : IntKind) (n : Int) : VR μ s w (.int k n) (.int k n)
  | str (b : ByteArray) : VR μ s w (.str b.data.toList) (.string b)
  | agg (cs : List AV) (vs : Array Value) (hl : cs.length = vs.size)
      (h : ∀ (i : Nat) x v, cs[i]? = some x → vs[i]? = some v → VR μ s w x v) : VR μ s w (.agg cs) (.agg vs)
  | tup (cs : List AV) (vs : Array Value) (hl : cs.length = vs.size)
      (h : ∀ (i : Nat) x v, cs[i]? = some x → vs[i]? = some v → VR μ s w x v) : VR μ s w (.tup cs) (.tuple vs)
  | nsl : VR μ s w .nsl (.slice none 0 0)
  | slnil (a : Option Addr) : VR μ s w (.sl []) (.slice a 0 0)
  | sl (xs : List (List AV)) (a : Addr) (cap sz : Nat) (vs : Nat → Nat → Value) (hb : a.block < w.heap.size) (hm : μ.free a.block) (hsp : xs ≠ [] → a.spot = none)
      (hcap : xs.length ≤ cap) (hsz : ∀ x ∈ xs, x.length = sz)
      (hc : ∀ i j x, get2 xs i j = some x → w.cell? (a.add (i * sz + j)) = some (vs i j))
      (h : ∀ i j x, get2 xs i j = some x → VR μ s w x (vs i j)) : VR μ s w (.sl xs) (.slice (some a) xs.length cap)
  | np : VR μ s w .np (.pointer none)
  | rp (cs : List AV) (a : Addr) (vs : Nat → Value) (hb : a.block < w.heap.size) (hm : μ.free a.block)
      (hc : ∀ j x, cs[j]? = some x → w.cell? (a.add j) = some (vs j))
      (h : ∀ j x, cs[j]? = some x → VR μ s w x (vs j)) : VR μ s w (.rp cs) (.pointer (some a))
  | ptr (id off : Nat) (v : Value) (ho : v.oneCell' = true) (hn : id < s.nx)
      (h : ∀ o, s.get id = some o → ∃ p, μ id = some p ∧ v = .pointer (some (p.1.add off))) : VR μ s w (.ptr id off) v
  | ep (id i j : Nat) (v : Value) (ho : v.oneCell' = true) (hn : id < s.nx)
      (h : ∀ sz wr es, s.get id = some (.row sz wr es) → ∃ p, μ id = some p ∧ v = .pointer (some (p.1.add (i * sz + j)))) : VR μ s w (.ep id i j) v
  | ls (id off len : Nat) (v : Value) (ho : v.oneCell' = true) (hn : id < s.nx)
      (h : ∀ sz wr es, s.get id = some (.row sz wr es) → (len = 0 ∧ ∃ a, v = .slice a 0 0) ∨
        ∃ p cap, μ id = some p ∧ v = .slice (some (p.1.add (off * sz))) len cap ∧ len ≤ cap ∧ (off + cap) * sz ≤ p.2) : VR μ s w (.ls id off len) v
  | map (id : Nat) (v : Value) (ho : v.oneCell' = true) (hn : id < s.nx)
      (h : ∀ o, s.get id = some o → ∃ p, μ id = some p ∧ v = .map (some p.1.block)) : VR μ s w (.map id) v
  | nmap : VR μ s w .nmap (.map none)
  | fn (f : Fn) (a b : List AV) (va vb : Array Value) (hla : a.length = va.size) (hlb : b.length = vb.size)
      (ha : ∀ (i : Nat) x v, a[i]? = some x → va[i]? = some v → VR μ s w x v)
      (hb : ∀ (i : Nat) x v, b[i]? = some x → vb[i]? = some v → VR μ s w x v) : VR μ s w (.fn f a b) (.func f va vb)
  | nfn : VR μ s w .nfn .nilFunc
  | ifc (t : TypeId) (x : AV) (v : Value) (h : VR μ s w x v) : VR μ s w (.ifc t x) (.iface t v)
  | nif : VR μ s w .nif .nilIface
  | it (id : Nat) (v : Value) (ho : v.oneCell' = true) (hn : id < s.nx)
      (h : ∀ o, s.get id = some o → ∃ p, μ id = some p ∧ v = .pointer (some ⟨p.1.block, 0, none⟩)) : VR μ s w (.it id) v

/-- Lists of them, one by one. -/
def VRs (μ : Mu) (s : St) (w : World) (cs : List AV) (vs : Array Value) : Prop :=
  cs.length = vs.size ∧ ∀ (i : Nat) x v, cs[i]? = some x → vs[i]? = some v → VR μ s w x v

/-- What an object says of the heap. -/
def ORel (μ : Mu) (s : St) (w : World) (p : Addr × Nat) : AObj → Prop
  | .var ty cs => p.1.off = 0 ∧ p.1.spot = none ∧ ∃ vs t, w.heap[p.1.block]? = some (.cells vs t (0, 0)) ∧ VRs μ s w cs vs ∧ t = ty
  | .row sz wr es => p.1.spot = none ∧ ∃ vs t lo hi, w.heap[p.1.block]? = some (.cells vs t (lo, hi)) ∧ ((wr.1 = true → lo = 0 ∧ hi = 0) ∧ t = wr.2) ∧ (hi ≤ p.1.off + es.length * sz ∨ hi ≤ lo) ∧ p.1.off + p.2 ≤ vs.size ∧
      es.length * sz ≤ p.2 ∧ (∀ e ∈ es, e.length = sz) ∧
      ∀ i j x, get2 es i j = some x → ∃ v, vs[p.1.off + (i * sz + j)]? = some v ∧ VR μ s w x v
  | .map es => p.1.off = 0 ∧ p.1.spot = none ∧ ∃ (ents : Array MapEntry) (clk : Nat), w.heap[p.1.block]? = some (.map ents clk) ∧ es.length = ents.size ∧
      (∀ (i : Nat) x e, es[i]? = some x → ents[i]? = some e → VR μ s w x.1 e.key ∧ VR μ s w x.2 e.val)
  | .siter str pos => p.1.off = 0 ∧ p.1.spot = none ∧ ∃ b : ByteArray, b.data.toList = str ∧ w.heap[p.1.block]? = some (.stringIter b pos)

/-- The program; how many blocks are the program's own variables'; a world in which these are as they stay. -/
structure TI where
  size : Nat
  bytes : Nat
  agg : Bool
  zero : List Value
  desc : TypeDesc
  held : Bool
  guarded : Bool
def aggDesc : TypeDesc → Bool
  | .struct _ | .array _ _ => true
  | _ => false
/-- What the program's tables say of a type. -/
def tiOf (P : Program) (t : TypeId) : Option TI :=
  match P.info? t, P.underlying t with
  | some i, some d => match i.zero with
    | some z => some ⟨i.size, i.bytes, aggDesc d, z.cells.toList, d, aggDesc d && P.stoodInHeld t, aggDesc d && P.eqGuardType P.depth t⟩
    | none => none
  | _, _ => none
/-- A value of the program's text. -/
def ofConst : Value → AV
  | .bool b => .bool b
  | .int k n => .int k n
  | .string b => .str b.data.toList
  | .slice none 0 0 => .nsl
  | .pointer none => .np
  | .map none => .nmap
  | .nilFunc => .nfn
  | .nilIface => .nif
  | .func f ⟨[]⟩ ⟨[]⟩ => .fn f [] []
  | _ => .junk
structure Env where
  P : Program
  K : Nat
  gw : World
  ti : TypeId → Option TI
  tok : ∀ t x, ti t = some x → tiOf P t = some x
  glob : Nat → List AV
  gok : ∀ g j x, (glob g)[j]? = some x → g < K ∧ ∃ v, gw.cell? ((⟨g, 0, none⟩ : Addr).add j) = some v ∧ x = ofConst v

structure Rel (E : Env) (μ : Mu) (s : St) (w : World) : Prop where
  obj : ∀ id p, μ id = some p → id < s.nx ∧ ∃ o, s.get id = some o ∧ ORel μ s w p o
  inj : ∀ i j p q, μ i = some p → μ j = some q → p.1.block = q.1.block → i = j
  lo : ∀ id p, μ id = some p → E.K ≤ p.1.block
  gl : ∀ b, b < E.K → w.heap[b]? = E.gw.heap[b]?
  size : E.K ≤ w.heap.size
  tape : w.tape = E.gw.tape
  os : w.os = E.gw.os

/-- The ids that may be written: those of W, and the new ones. -/
def May (n0 : Nat) (W : Nat → Prop) (id : Nat) : Prop := W id ∨ n0 ≤ id

/-- What a step may do. -/
structure Fr (n0 : Nat) (W : Nat → Prop) (μ : Mu) (s : St) (w : World) (μ' : Mu) (s' : St) (w' : World) : Prop where
  os : w'.os = w.os
  tape : w'.tape = w.tape
  output : w'.output = w.output
  size : w.heap.size ≤ w'.heap.size
  nx : s.nx ≤ s'.nx
  blocks : ∀ b, b < w.heap.size → (∀ id p, May n0 W id → μ id = some p → p.1.block ≠ b) → w'.heap[b]? = w.heap[b]?
  keep : ∀ id p, id < s.nx → μ id = some p → (∃ o, s'.get id = some o) → μ' id = some p
  old : ∀ id p, id < s.nx → μ' id = some p → μ id = some p
  new : ∀ id p, s.nx ≤ id → μ' id = some p → w.heap.size ≤ p.1.block ∨ ∃ id0 p0, May n0 W id0 ∧ μ id0 = some p0 ∧ p0.1.block = p.1.block
  shape : ∀ id o', id < s.nx → s'.get id = some o' → ∃ o, s.get id = some o ∧ o.shape = o'.shape
  same : ∀ id, id < s.nx → ¬ May n0 W id → s'.get id = s.get id


theorem Fr.refl {n0 : Nat} {W : Nat → Prop} {μ : Mu} {s : St} {w : World} (h : ∀ id p, μ id = some p → id < s.nx) : Fr n0 W μ s w μ s w where
  os := rfl
  tape := rfl
  output := rfl
  size := Nat.le_refl _
  nx := Nat.le_refl _
  blocks _ _ _ := rfl
  keep _ _ _ h _ := h
  old _ _ _ h := h
  new id p hn hp := absurd (h id p hp) (by omega)
  shape _ o _ h := ⟨o, h, rfl⟩
  same _ _ _ := rfl

theorem Fr.trans {n0 : Nat} {W : Nat → Prop} {μ μ1 μ2 : Mu} {s s1 s2 : St} {w w1 w2 : World}
    (h : Fr n0 W μ s w μ1 s1 w1) (k : Fr n0 W μ1 s1 w1 μ2 s2 w2) : Fr n0 W μ s w μ2 s2 w2 where
  os := k.os.trans h.os
  tape := k.tape.trans h.tape
  output := k.output.trans h.output
  size := Nat.le_trans h.size k.size
  nx := Nat.le_trans h.nx k.nx
  blocks b hb hm := by
    rw [k.blocks b (Nat.lt_of_lt_of_le hb h.size) ?_, h.blocks b hb hm]
    intro id p hid hp e
    by_cases hlt : id < s.nx
    · exact hm id p hid (h.old id p hlt hp) e
    · rcases h.new id p (by omega) hp with h1 | ⟨id0, p0, h1, h2, h3⟩
      · omega
      · exact hm id0 p0 h1 h2 (h3.trans e)
  keep id p hid hp ho := by
    obtain ⟨o, ho⟩ := ho
    have hid1 : id < s1.nx := Nat.lt_of_lt_of_le hid h.nx
    obtain ⟨o1, ho1, _⟩ := k.shape id o hid1 ho
    exact k.keep id p hid1 (h.keep id p hid hp ⟨o1, ho1⟩) ⟨o, ho⟩
  old id p hid hp := h.old id p hid (k.old id p (Nat.lt_of_lt_of_le hid h.nx) hp)
  new id p hid hp := by
    by_cases hlt : id < s1.nx
    · exact h.new id p hid (k.old id p hlt hp)
    · rcases k.new id p (by omega) hp with h1 | ⟨id0, p0, h1, h2, h3⟩
      · exact .inl (Nat.le_trans h.size h1)
      · by_cases hl0 : id0 < s.nx
        · exact .inr ⟨id0, p0, h1, h.old id0 p0 hl0 h2, h3⟩
        · rcases h.new id0 p0 (by omega) h2 with h4 | ⟨id1, p1, h4, h5, h6⟩
          · exact .inl (h3 ▸ h4)
          · exact .inr ⟨id1, p1, h4, h5, h6.trans h3⟩
  shape id o hid ho := by
    obtain ⟨o1, ho1, e1⟩ := k.shape id o (Nat.lt_of_lt_of_le hid h.nx) ho
    obtain ⟨o2, ho2, e2⟩ := h.shape id o1 hid ho1
    exact ⟨o2, ho2, e2.trans e1⟩
  same id hid hm := (k.same id (Nat.lt_of_lt_of_le hid h.nx) hm).trans (h.same id hid hm)

/-- A callee's step is a step of the caller's. -/
theorem Fr.weaken {n0 n1 : Nat} {W W1 : Nat → Prop} {μ μ1 : Mu} {s s1 : St} {w w1 : World} (h : Fr n1 W1 μ s w μ1 s1 w1)
    (hm : ∀ id, May n1 W1 id → May n0 W id) : Fr n0 W μ s w μ1 s1 w1 where
  os := h.os
  tape := h.tape
  output := h.output
  size := h.size
  nx := h.nx
  blocks b hb hh := h.blocks b hb fun id p hid hp => hh id p (hm id hid) hp
  keep := h.keep
  old := h.old
  new id p hid hp := (h.new id p hid hp).imp_right fun ⟨id0, p0, h1, h2, h3⟩ => ⟨id0, p0, hm id0 h1, h2, h3⟩
  shape := h.shape
  same id hid hmm := h.same id hid fun hh => hmm (hm id hh)

theorem World.cell?_block {w w' : World} {a : Addr} (h : w'.heap[a.block]? = w.heap[a.block]?) : w'.cell? a = w.cell? a := by
  unfold World.cell?; rw [h]

theorem Addr.add_block (a : Addr) (n : Nat) : (a.add n).block = a.block := by unfold Addr.add; split <;> rfl
theorem Addr.add_spot {a : Addr} (h : a.spot = none) (n : Nat) : (a.add n).spot = none := by unfold Addr.add; split <;> first | exact h | rfl
theorem Addr.add_zero (a : Addr) : a.add 0 = a := rfl
theorem Addr.add_add (a : Addr) (m n : Nat) : (a.add m).add n = a.add (m + n) := by
  unfold Addr.add
  by_cases hm : m = 0
  · subst hm; simp
  · by_cases hn : n = 0
    · subst hn; simp [hm]
    · simp [hm, hn, Nat.add_assoc]

/-- A value goes on to mean what it meant. -/
theorem VR.mono {n0 : Nat} {W : Nat → Prop} {μ μ' : Mu} {s s' : St} {w w' : World} (F : Fr n0 W μ s w μ' s' w') {x : AV} {v : Value}
    (h : VR μ s w x v) : VR μ' s' w' x v := by
  have hfree : ∀ b, b < w.heap.size → μ.free b → w'.heap[b]? = w.heap[b]? ∧ μ'.free b := fun b hb hm => by
    refine ⟨F.blocks b hb fun id p _ hp => hm id p hp, fun id p hp e => ?_⟩
    by_cases hlt : id < s.nx
    · exact hm id p (F.old id p hlt hp) e
    · rcases F.new id p (by omega) hp with h1 | ⟨id0, p0, _, h2, h3⟩
      · omega
      · exact hm id0 p0 h2 (h3.trans e)
  induction h with
  | junk v => exact .junk v
  | bool b => exact .bool b
  | int k n => exact .int k n
  | str b => exact .str b
  | agg cs vs hl _ ih => exact .agg cs vs hl ih
  | tup cs vs hl _ ih => exact .tup cs vs hl ih
  | nsl => exact .nsl
  | slnil a => exact .slnil a
  | sl xs a cap sz vs hb hm hsp hcap hsz hc _ ih =>
    obtain ⟨h1, h2⟩ := hfree a.block hb hm
    refine .sl xs a cap sz vs (Nat.lt_of_lt_of_le hb F.size) h2 hsp hcap hsz (fun i j x hx => ?_) ih
    exact (World.cell?_block (w := w) (w' := w') (by rw [Addr.add_block]; exact h1)).trans (hc i j x hx)
  | np => exact .np
  | rp cs a vs hb hm hc _ ih =>
    obtain ⟨h1, h2⟩ := hfree a.block hb hm
    refine .rp cs a vs (Nat.lt_of_lt_of_le hb F.size) h2 (fun j x hx => ?_) ih
    exact (World.cell?_block (w := w) (w' := w') (by rw [Addr.add_block]; exact h1)).trans (hc j x hx)
  | ptr id off v h1 hn h =>
    refine .ptr id off v h1 (Nat.lt_of_lt_of_le hn F.nx) fun o ho => ?_
    obtain ⟨o1, ho1, _⟩ := F.shape id o hn ho
    obtain ⟨p, hp, hv⟩ := h o1 ho1
    exact ⟨p, F.keep id p hn hp ⟨o, ho⟩, hv⟩
  | ep id i j v h1 hn h =>
    refine .ep id i j v h1 (Nat.lt_of_lt_of_le hn F.nx) fun sz wr es ho => ?_
    obtain ⟨o1, ho1, e⟩ := F.shape id _ hn ho
    cases o1 with
    | row sz1 wr1 es1 =>
      obtain rfl : sz1 = sz := by simpa [AObj.shape] using e
      obtain ⟨p, hp, hv⟩ := h _ _ _ ho1
      exact ⟨p, F.keep id p hn hp ⟨_, ho⟩, hv⟩
    | _ => simp [AObj.shape] at e
  | ls id off len v h1 hn h =>
    refine .ls id off len v h1 (Nat.lt_of_lt_of_le hn F.nx) fun sz wr es ho => ?_
    obtain ⟨o1, ho1, e⟩ := F.shape id _ hn ho
    cases o1 with
    | row sz1 wr1 es1 =>
      obtain rfl : sz1 = sz := by simpa [AObj.shape] using e
      rcases h _ _ _ ho1 with h2 | ⟨p, cap, hp, hr⟩
      · exact .inl h2
      · exact .inr ⟨p, cap, F.keep id p hn hp ⟨_, ho⟩, hr⟩
    | _ => simp [AObj.shape] at e
  | map id v h1 hn h =>
    refine .map id v h1 (Nat.lt_of_lt_of_le hn F.nx) fun o ho => ?_
    obtain ⟨o1, ho1, _⟩ := F.shape id o hn ho
    obtain ⟨p, hp, hv⟩ := h o1 ho1
    exact ⟨p, F.keep id p hn hp ⟨o, ho⟩, hv⟩
  | nmap => exact .nmap
  | fn f a b va vb hla hlb _ _ iha ihb => exact .fn f a b va vb hla hlb iha ihb
  | nfn => exact .nfn
  | ifc t x v _ ih => exact .ifc t x v ih
  | nif => exact .nif
  | it id v h1 hn h =>
    refine .it id v h1 (Nat.lt_of_lt_of_le hn F.nx) fun o ho => ?_
    obtain ⟨o1, ho1, _⟩ := F.shape id o hn ho
    obtain ⟨p, hp, hv⟩ := h o1 ho1
    exact ⟨p, F.keep id p hn hp ⟨o, ho⟩, hv⟩

theorem VRs.mono {n0 : Nat} {W : Nat → Prop} {μ μ' : Mu} {s s' : St} {w w' : World} (F : Fr n0 W μ s w μ' s' w') {x : List AV} {v : Array Value}
    (h : VRs μ s w x v) : VRs μ' s' w' x v := ⟨h.1, fun i a b ha hb => (h.2 i a b ha hb).mono F⟩
end Go.Am
namespace Go.Am

/-- A result that stands for an abstract one. -/
def Yld (E : Env) (n0 : Nat) (W : Nat → Prop) (μ : Mu) (s : St) (w : World) (R : Result Value) (r : AV) (s' : St) : Prop :=
  ∃ v w' μ', R = .ok v w' ∧ VR μ' s' w' r v ∧ Rel E μ' s' w' ∧ Fr n0 W μ s w μ' s' w'

section
variable {E : Env} {n0 : Nat} {W : Nat → Prop} {μ μ' : Mu} {s s' : St} {w w' : World}

theorem Rel.lt (h : Rel E μ s w) : ∀ id p, μ id = some p → id < s.nx := fun id p hp => (h.obj id p hp).1
theorem Rel.refl (h : Rel E μ s w) : Fr n0 W μ s w μ s w := Fr.refl h.lt

theorem Yld.pure (h : Rel E μ s w) {v : Value} {r : AV} (hr : VR μ s w r v) : Yld E n0 W μ s w (.ok v w) r s :=
  ⟨v, w, μ, rfl, hr, h, h.refl⟩

theorem ORel.block_lt {p : Addr × Nat} {o : AObj} (h : ORel μ s w p o) : p.1.block < w.heap.size := by
  cases o with
  | var cs => obtain ⟨_, _, vs, t, hh, _⟩ := h; exact (Array.getElem?_eq_some_iff.1 hh).1
  | row sz wr es => obtain ⟨_, vs, t, lo, hi, hh, _⟩ := h; exact (Array.getElem?_eq_some_iff.1 hh).1
  | map es => obtain ⟨_, _, ents, clk, hh, _⟩ := h; exact (Array.getElem?_eq_some_iff.1 hh).1
  | siter str pos => obtain ⟨_, _, b, _, hh⟩ := h; exact (Array.getElem?_eq_some_iff.1 hh).1

theorem Rel.block_lt (h : Rel E μ s w) {id : Nat} {p : Addr × Nat} (hp : μ id = some p) : p.1.block < w.heap.size := by
  obtain ⟨_, o, _, ho⟩ := h.obj id p hp
  exact ho.block_lt

/-- An object whose block is as it was says what it said. -/
theorem ORel.mono (F : Fr n0 W μ s w μ' s' w') {p : Addr × Nat} {o : AObj} (hb : w'.heap[p.1.block]? = w.heap[p.1.block]?) (h : ORel μ s w p o) : ORel μ' s' w' p o := by
  cases o with
  | var ty cs =>
    obtain ⟨h1, h2, vs, t, hh, hv, ht⟩ := h
    exact ⟨h1, h2, vs, t, hb.trans hh, hv.mono F, ht⟩
  | row sz wr es =>
    obtain ⟨h1, vs, t, lo, hi, hh, h2, h3, h4, h5, h6, h7⟩ := h
    refine ⟨h1, vs, t, lo, hi, hb.trans hh, h2, h3, h4, h5, h6, fun i j x hx => ?_⟩
    obtain ⟨v, hv, hr⟩ := h7 i j x hx
    exact ⟨v, hv, hr.mono F⟩
  | map es =>
    obtain ⟨h1, h2, ents, clk, hh, h3, h4⟩ := h
    exact ⟨h1, h2, ents, clk, hb.trans hh, h3, fun i x e hx he => ⟨(h4 i x e hx he).1.mono F, (h4 i x e hx he).2.mono F⟩⟩
  | siter str pos =>
    obtain ⟨h1, h2, b, h3, hh⟩ := h
    exact ⟨h1, h2, b, h3, hb.trans hh⟩

/-! ### a new object -/
def Mu.add (μ : Mu) (n : Nat) (p : Addr × Nat) : Mu := fun j => if j = n then some p else μ j

theorem Fr.alloc (h : Rel E μ s w) (o : AObj) (ob : Obj) (room : Nat) :
    Fr n0 W μ s w (μ.add s.nx (⟨w.heap.size, 0, none⟩, room)) (s.push o) (w.alloc ob) where
  os := rfl
  tape := rfl
  output := rfl
  size := by simp
  nx := by simp
  blocks b hb _ := Below.heap_alloc' w ob b hb
  keep id p hid hp _ := by simp [Mu.add, Nat.ne_of_lt hid, hp]
  old id p hid hp := by simpa [Mu.add, Nat.ne_of_lt hid] using hp
  new id p hid hp := by
    by_cases e : id = s.nx
    · simp only [Mu.add, e, if_true, Option.some.injEq] at hp
      subst hp
      exact .inl (Nat.le_refl _)
    · simp only [Mu.add, e, if_false] at hp
      exact absurd (h.lt id p hp) (by omega)
  shape id o' hid ho := by
    rw [St.get_push, if_neg (Nat.ne_of_lt hid)] at ho
    exact ⟨o', ho, rfl⟩
  same id hid _ := by rw [St.get_push, if_neg (Nat.ne_of_lt hid)]
where
  Below.heap_alloc' (w : World) (o : Obj) (k : Nat) (h : k < w.heap.size) : (w.alloc o).heap[k]? = w.heap[k]? := by
    show (w.heap.push o)[k]? = _
    rw [Array.getElem?_push, if_neg (by omega)]

theorem heap_new (w : World) (o : Obj) : (w.alloc o).heap[w.heap.size]? = some o := by
  show (w.heap.push o)[w.heap.size]? = _
  simp
theorem heap_old (w : World) (o : Obj) {k : Nat} (h : k < w.heap.size) : (w.alloc o).heap[k]? = w.heap[k]? := by
  show (w.heap.push o)[k]? = _
  rw [Array.getElem?_push, if_neg (by omega)]

/-- A new object, in a new block. -/
theorem Rel.alloc (h : Rel E μ s w) (o : AObj) (ob : Obj) (room : Nat)
    (ho : ∀ μ' s' w', Fr s.nx (fun _ => False) μ s w μ' s' w' → w'.heap[w.heap.size]? = some ob → ORel μ' s' w' (⟨w.heap.size, 0, none⟩, room) o) :
    Rel E (μ.add s.nx (⟨w.heap.size, 0, none⟩, room)) (s.push o) (w.alloc ob) where
  obj id p hp := by
    by_cases e : id = s.nx
    · subst e
      simp only [Mu.add, if_true, Option.some.injEq] at hp
      subst hp
      exact ⟨by simp, o, by simp, ho _ _ _ (Fr.alloc h o ob room) (heap_new w ob)⟩
    · simp only [Mu.add, e, if_false] at hp
      obtain ⟨hid, o1, ho1, hr⟩ := h.obj id p hp
      refine ⟨by simp; omega, o1, by rw [St.get_push, if_neg e]; exact ho1, ?_⟩
      exact hr.mono (Fr.alloc (n0 := s.nx) (W := fun _ => False) h o ob room) (heap_old w ob hr.block_lt)
  inj i j p q hi hj hb := by
    simp only [Mu.add] at hi hj
    by_cases ei : i = s.nx <;> by_cases ej : j = s.nx
    · omega
    · simp only [ei, if_true, Option.some.injEq] at hi
      simp only [ej, if_false] at hj
      subst hi
      have := h.block_lt hj
      simp at hb
      omega
    · simp only [ej, if_true, Option.some.injEq] at hj
      simp only [ei, if_false] at hi
      subst hj
      have := h.block_lt hi
      simp at hb
      omega
    · simp only [ei, ej, if_false] at hi hj
      exact h.inj i j p q hi hj hb
  lo id p hp := by
    by_cases e : id = s.nx
    · simp only [Mu.add, e, if_true, Option.some.injEq] at hp
      subst hp
      exact h.size
    · simp only [Mu.add, e, if_false] at hp
      exact h.lo id p hp
  gl b hb := by rw [heap_old w ob (Nat.lt_of_lt_of_le hb h.size)]; exact h.gl b hb
  size := by have := h.size; simp; omega
  tape := h.tape
  os := h.os

/-! ### a block written -/
def setBlock (w : World) (b : Nat) (ob : Obj) : World := { w with heap := w.heap.setIfInBounds b ob }
theorem heap_setBlock (w : World) (b : Nat) (ob : Obj) (k : Nat) : (setBlock w b ob).heap[k]? = if b = k ∧ k < w.heap.size then some ob else w.heap[k]? := by
  simp only [setBlock, Array.getElem?_setIfInBounds]
  by_cases e : b = k
  · subst e
    by_cases hlt : b < w.heap.size
    · simp [hlt]
    · simp [hlt]
  · simp [e]
@[simp] theorem size_setBlock (w : World) (b : Nat) (ob : Obj) : (setBlock w b ob).heap.size = w.heap.size := by simp [setBlock]

/-- An object written in place: the same shape, the same place. -/
theorem Fr.put (h : Rel E μ s w) {id : Nat} {p : Addr × Nat} (hp : μ id = some p) (hm : May n0 W id) {o : AObj} (ho : s.get id = some o) (o' : AObj) (hsh : o'.shape = o.shape) (ob : Obj) :
    Fr n0 W μ s w μ (s.put id o') (setBlock w p.1.block ob) where
  os := rfl
  tape := rfl
  output := rfl
  size := by simp
  nx := Nat.le_refl _
  blocks b _ hb := by
    rw [heap_setBlock, if_neg]
    rintro ⟨e, _⟩
    exact hb id p hm hp e
  keep _ _ _ h _ := h
  old _ _ _ h := h
  new id p hid hp := absurd (h.lt id p hp) (by omega)
  shape i o1 hid ho1 := by
    rw [St.get_put] at ho1
    by_cases e : i = id
    · subst e
      simp only [if_true, Option.some.injEq] at ho1
      exact ⟨o, ho, by rw [← ho1, hsh]⟩
    · rw [if_neg e] at ho1
      exact ⟨o1, ho1, rfl⟩
  same i _ hi := by
    rw [St.get_put, if_neg]
    rintro rfl
    exact hi hm

theorem Rel.put (h : Rel E μ s w) {id : Nat} {p : Addr × Nat} (hp : μ id = some p) {o : AObj} (ho : s.get id = some o) (o' : AObj) (hsh : o'.shape = o.shape) (ob : Obj)
    (hr : ∀ s' w', Fr id (fun _ => False) μ s w μ s' w' → w'.heap[p.1.block]? = some ob → ORel μ s' w' p o') :
    Rel E μ (s.put id o') (setBlock w p.1.block ob) where
  obj i q hq := by
    obtain ⟨hid, o1, ho1, hr1⟩ := h.obj i q hq
    refine ⟨hid, ?_⟩
    have hF : Fr id (fun _ => False) μ s w μ (s.put id o') (setBlock w p.1.block ob) := Fr.put h hp (.inr (Nat.le_refl _)) ho o' hsh ob
    by_cases e : i = id
    · subst e
      obtain rfl : q = p := Option.some.inj (hq.symm.trans hp)
      refine ⟨o', by simp, hr _ _ hF ?_⟩
      rw [heap_setBlock, if_pos ⟨rfl, hr1.block_lt⟩]
    · refine ⟨o1, by rw [St.get_put, if_neg e]; exact ho1, hr1.mono hF ?_⟩
      rw [heap_setBlock, if_neg]
      rintro ⟨eb, _⟩
      exact e (h.inj i id q p hq hp eb.symm)
  inj := h.inj
  lo := h.lo
  gl b hb := by
    rw [heap_setBlock, if_neg]
    · exact h.gl b hb
    · rintro ⟨e, _⟩
      have := h.lo id p hp
      omega
  size := by have := h.size; simpa using this
  tape := h.tape
  os := h.os
end
end Go.Am
namespace Go.Am

/-! ### cells -/
def AV.one : AV → Bool
  | .junk | .agg _ | .tup _ => false
  | _ => true
def AV.cells : AV → List AV
  | .agg cs => cs
  | x => [x]
/-- May be stored: cell by cell no junk. -/
def AV.fit (x : AV) : Bool := x.cells.all AV.one

section
variable {E : Env} {n0 : Nat} {W : Nat → Prop} {μ μ' : Mu} {s s' : St} {w w' : World}

theorem VR.oneCell {x : AV} {v : Value} (h : VR μ s w x v) (ho : x.one = true) : v.oneCell' = true := by
  cases h <;> first
    | rfl
    | (simp [AV.one] at ho; done)
    | assumption

theorem VR.const (v : Value) : VR μ s w (ofConst v) v := by
  unfold ofConst
  split <;> first
    | exact .bool _
    | exact .int _ _
    | exact .str _
    | exact .nsl
    | exact .np
    | exact .nmap
    | exact .nfn
    | exact .nif
    | exact .fn _ [] [] #[] #[] rfl rfl (fun i x v h => by simp at h) (fun i x v h => by simp at h)
    | exact .junk _

theorem cells_one {v : Value} (h : v.oneCell' = true) : v.cells = #[v] := by
  cases v <;> first | rfl | (simp [Value.oneCell'] at h; done)

/-- A value's cells are its cells'. -/
theorem VR.cells {x : AV} {v : Value} (h : VR μ s w x v) (hf : x.fit = true) : VRs μ s w x.cells v.cells ∧ ∀ (i : Nat) u, v.cells[i]? = some u → u.oneCell' = true := by
  have key : ∀ (cs : List AV) (vs : Array Value), VRs μ s w cs vs → cs.all AV.one = true → ∀ (i : Nat) u, vs[i]? = some u → u.oneCell' = true := by
    intro cs vs hv ha i u hu
    have hi : i < vs.size := (Array.getElem?_eq_some_iff.1 hu).1
    have hi' : i < cs.length := by rw [hv.1]; exact hi
    exact (hv.2 i cs[i] u (List.getElem?_eq_getElem hi') hu).oneCell (by
      have := List.all_eq_true.1 ha cs[i] (List.getElem_mem hi')
      exact this)
  have hs : VRs μ s w x.cells v.cells := by
    cases hx : x with
    | agg cs =>
      subst hx
      cases h with
      | agg _ vs hl hh => exact ⟨hl, hh⟩
    | _ =>
      have ho : x.one = true := by
        have := hf
        subst hx
        simpa [AV.fit, AV.cells] using this
      have hc := cells_one (h.oneCell ho)
      rw [hc]
      subst hx
      refine ⟨rfl, fun i y u hy hu => ?_⟩
      cases i with
      | zero =>
        simp [AV.cells] at hy hu
        subst hy; subst hu
        exact h
      | succ i => simp at hu
  exact ⟨hs, key _ _ hs hf⟩

/-! ### what the tables give -/
theorem ti_parts {t : TypeId} {x : TI} (h : E.ti t = some x) :
    (∃ i, E.P.info? t = some i ∧ i.size = x.size ∧ i.bytes = x.bytes ∧ ∃ z, i.zero = some z ∧ z.cells.toList = x.zero) ∧ E.P.underlying t = some x.desc ∧ x.agg = aggDesc x.desc ∧ x.held = (x.agg && E.P.stoodInHeld t) ∧ x.guarded = (x.agg && E.P.eqGuardType E.P.depth t) := by
  have h' := E.tok t x h
  unfold tiOf at h'
  split at h'
  · rename_i i d hi hd
    split at h'
    · rename_i z hz
      simp only [Option.some.injEq] at h'
      subst h'
      exact ⟨⟨i, hi, rfl, rfl, z, hz, rfl⟩, hd, rfl, rfl, rfl⟩
    · cases h'
  · cases h'

theorem run_sizeOf' {t : TypeId} {x : TI} (h : E.ti t = some x) (w : World) : (Go.sizeOf t).run E.P w = .ok x.size w := by
  obtain ⟨⟨i, hi, h1, _⟩, _⟩ := ti_parts h
  simp [Go.sizeOf, typeInfo, hi, h1]
theorem run_bytes' {t : TypeId} {x : TI} (h : E.ti t = some x) (w : World) : ∃ i, (typeInfo t).run E.P w = .ok i w ∧ i.bytes = x.bytes ∧ i.size = x.size := by
  obtain ⟨⟨i, hi, h1, h2, _⟩, _⟩ := ti_parts h
  exact ⟨i, by simp [typeInfo, hi], h2, h1⟩
theorem run_underlying' {t : TypeId} {x : TI} (h : E.ti t = some x) (w : World) : (underlying t).run E.P w = .ok x.desc w := by
  obtain ⟨_, h2, _⟩ := ti_parts h
  simp [underlying, h2]
theorem run_isAgg' {t : TypeId} {x : TI} (h : E.ti t = some x) (w : World) : (isAgg t).run E.P w = .ok x.agg w := by
  obtain ⟨_, h2, h3, _⟩ := ti_parts h
  simp only [isAgg, Sem.run_bind, run_underlying' h, Result.andThen_ok, h3]
  cases x.desc <;> rfl
theorem run_zero' {t : TypeId} {x : TI} (h : E.ti t = some x) (w : World) : ∃ z, (zeroValue t).run E.P w = .ok z w ∧ z.cells.toList = x.zero := by
  obtain ⟨⟨i, hi, _, _, z, hz, hzz⟩, _⟩ := ti_parts h
  exact ⟨z, by simp [zeroValue, typeInfo, hi, hz], hzz⟩

/-! ### reading cells -/
/-- The value that a run of cells is. -/
def ofCells (agg : Bool) (cs : List AV) : Option AV :=
  if agg then some (.agg cs) else match cs with | [x] => some x | _ => none

theorem run_loadVar' {t : TypeId} {x : TI} (ht : E.ti t = some x) {a : Addr} {cs : List AV} (hl : cs.length = x.size) (vs : Nat → Value)
    (hc : ∀ j y, cs[j]? = some y → w.cell? (a.add j) = some (vs j)) (hv : ∀ j y, cs[j]? = some y → VR μ s w y (vs j)) {r : AV} (hr : ofCells x.agg cs = some r) :
    ∃ v, (loadVar t a).run E.P w = .ok v w ∧ VR μ s w r v := by
  have hcell : ∀ j, j < x.size → w.cell? (a.add j) = some (vs j) := fun j hj => hc j (cs[j]'(by omega)) (List.getElem?_eq_getElem (by omega))
  unfold ofCells at hr
  simp only [loadVar, Sem.run_bind, run_isAgg' ht, Result.andThen_ok]
  cases hx : x.agg with
  | true =>
    simp only [hx, if_true, Option.some.injEq] at hr ⊢
    subst hr
    simp only [Sem.run_bind, run_sizeOf' ht, Result.andThen_ok, Sem.run_pure]
    have := run_loadCells (P := E.P) (w := w) a x.size vs hcell
    rw [this]
    refine ⟨_, rfl, .agg _ _ (by simp [hl]) fun i y v hy hv' => ?_⟩
    have hi : i < x.size := by rw [← hl]; exact (List.getElem?_eq_some_iff.1 hy).1
    simp [hi] at hv'
    subst hv'
    exact hv i y hy
  | false =>
    simp only [hx, Bool.false_eq_true, if_false] at hr ⊢
    match cs, hr with
    | [y], hr =>
      simp only [Option.some.injEq] at hr
      subst hr
      refine ⟨vs 0, ?_, hv 0 y rfl⟩
      have := hc 0 y rfl
      rw [Addr.add_zero] at this
      simp [this]

/-- The cells behind an address. -/
def aload (s : St) (x : AV) (n : Nat) : Option (List AV) :=
  match x with
  | .ptr id off => match s.get id with
    | some (.var _ cs) => if off + n ≤ cs.length then some ((cs.drop off).take n) else none
    | _ => none
  | .ep id i j => match s.get id with
    | some (.row _ _ es) => match es[i]? with
      | some e => if j + n ≤ e.length then some ((e.drop j).take n) else none
      | none => none
    | _ => none
  | .rp cs => if n ≤ cs.length then some (cs.take n) else none
  | _ => none

theorem take_drop_get {α : Type} (l : List α) (a n j : Nat) (y : α) (h : ((l.drop a).take n)[j]? = some y) : j < n ∧ l[a + j]? = some y := by
  rw [List.getElem?_take] at h
  split at h
  · rename_i hj
    rw [List.getElem?_drop] at h
    exact ⟨hj, h⟩
  · cases h

theorem cell_of_heap {w : World} {a : Addr} {vs : Array Value} {t : TypeId} {fr : Nat × Nat} (h : w.heap[a.block]? = some (.cells vs t fr)) (hs : a.spot = none) (j : Nat) : w.cell? (a.add j) = vs[a.off + j]? := by
  have h1 : (a.add j).block = a.block := Addr.add_block a j
  have h2 : (a.add j).spot = none := by unfold Addr.add; split <;> simp [hs]
  have h3 : (a.add j).off = a.off + j := by unfold Addr.add; split <;> simp_all
  unfold World.cell?
  rw [h1, h]
  simp [h2, h3]

theorem aload_sound (hR : Rel E μ s w) {x : AV} {v : Value} {n : Nat} {cs : List AV} (h : aload s x n = some cs) (hv : VR μ s w x v) :
    cs.length = n ∧ ∃ (a : Addr) (vs : Nat → Value), v = .pointer (some a) ∧ (∀ j y, cs[j]? = some y → w.cell? (a.add j) = some (vs j)) ∧ ∀ j y, cs[j]? = some y → VR μ s w y (vs j) := by
  cases hv with
  | ptr id off v _ hn hp =>
    simp only [aload] at h
    split at h
    · rename_i cs0 hs
      split at h
      · rename_i hle
        simp only [Option.some.injEq] at h
        subst h
        obtain ⟨p, hq, rfl⟩ := hp _ hs
        obtain ⟨_, o, ho, hr⟩ := hR.obj id p hq
        obtain rfl : o = .var _ cs0 := Option.some.inj (ho.symm.trans hs)
        obtain ⟨h0, hsp, vs, t, hh, hvs, _⟩ := hr
        refine ⟨by simp; omega, p.1.add off, fun j => (vs[off + j]?).getD undef, rfl, fun j y hy => ?_, fun j y hy => ?_⟩
        · obtain ⟨hj, hy⟩ := take_drop_get _ _ _ _ _ hy
          have hlt : off + j < vs.size := by rw [← hvs.1]; exact (List.getElem?_eq_some_iff.1 hy).1
          rw [Addr.add_add, cell_of_heap hh hsp, h0, Nat.zero_add]
          simp [Array.getElem?_eq_getElem hlt]
        · obtain ⟨hj, hy⟩ := take_drop_get _ _ _ _ _ hy
          have hlt : off + j < vs.size := by rw [← hvs.1]; exact (List.getElem?_eq_some_iff.1 hy).1
          have := hvs.2 (off + j) y vs[off + j] hy (Array.getElem?_eq_getElem hlt)
          simpa [Array.getElem?_eq_getElem hlt] using this
      · cases h
    · cases h
  | ep id i j0 v _ hn hp =>
    simp only [aload] at h
    split at h
    · rename_i sz wr es hs
      split at h
      · rename_i e he
        split at h
        · rename_i hle
          simp only [Option.some.injEq] at h
          subst h
          obtain ⟨p, hq, rfl⟩ := hp _ _ _ hs
          obtain ⟨_, o, ho, hr⟩ := hR.obj id p hq
          obtain rfl : o = .row sz wr es := Option.some.inj (ho.symm.trans hs)
          obtain ⟨hsp, vs, t, lo, hi, hh, _, _, _, _, _, hx⟩ := hr
          have key : ∀ j y, ((e.drop j0).take n)[j]? = some y → ∃ u, vs[p.1.off + (i * sz + (j0 + j))]? = some u ∧ VR μ s w y u := fun j y hy => by
            obtain ⟨hj, hy⟩ := take_drop_get _ _ _ _ _ hy
            exact hx i (j0 + j) y (by simp [get2, he, hy])
          refine ⟨by simp; omega, p.1.add (i * sz + j0), fun j => (vs[p.1.off + (i * sz + (j0 + j))]?).getD undef, rfl, fun j y hy => ?_, fun j y hy => ?_⟩
          · obtain ⟨u, hu, _⟩ := key j y hy
            rw [Addr.add_add, cell_of_heap hh hsp, Nat.add_assoc (i * sz)]
            simp [hu]
          · obtain ⟨u, hu, hvu⟩ := key j y hy
            simpa [hu] using hvu
        · cases h
      · cases h
    · cases h
  | rp cs0 a vs hb hm hc hv =>
    simp only [aload] at h
    split at h
    · rename_i hle
      simp only [Option.some.injEq] at h
      subst h
      refine ⟨by simp; omega, a, vs, rfl, fun j y hy => ?_, fun j y hy => ?_⟩
      · rw [List.getElem?_take] at hy
        split at hy
        · exact hc j y hy
        · cases hy
      · rw [List.getElem?_take] at hy
        split at hy
        · exact hv j y hy
        · cases hy
    · cases h
  | _ => simp [aload] at h

/-- load -/
theorem load_sound (hR : Rel E μ s w) {t : TypeId} {x : TI} (ht : E.ti t = some x) {p : AV} {v : Value} {cs : List AV} {r : AV}
    (h : aload s p x.size = some cs) (hr : ofCells x.agg cs = some r) (hv : VR μ s w p v) : Yld E n0 W μ s w ((Instr.loadAt t v).run E.P w) r s := by
  obtain ⟨hl, a, vs, rfl, hc, hvs⟩ := aload_sound hR h hv
  obtain ⟨u, hu, hru⟩ := run_loadVar' ht hl vs hc hvs hr
  have : (Instr.loadAt t (.pointer (some a))).run E.P w = .ok u w := by
    simp only [Instr.loadAt, Instr.sureAddr, Sem.run_bind, Sem.run_pure, Result.andThen_ok, hu]
  rw [this]
  exact Yld.pure hR hru

/-! ### new variables -/
theorem run_newVar' (t : TypeId) (v : Value) (w : World) : (newVar t v).run E.P w = .ok ⟨w.heap.size, 0, none⟩ (w.alloc (.cells v.cells t)) := by
  simp only [newVar, newRow, Sem.run_bind, run_newObj, Result.andThen_ok, Sem.run_pure]
  rfl

theorem newVar_sound (hR : Rel E μ s w) (t : TypeId) {cs : List AV} {vs : Array Value} (hvs : VRs μ s w cs vs) :
    ∃ μ', VR μ' (s.push (.var t cs)) (w.alloc (.cells vs t)) (.ptr s.nx 0) (.pointer (some ⟨w.heap.size, 0, none⟩)) ∧ Rel E μ' (s.push (.var t cs)) (w.alloc (.cells vs t)) ∧
      Fr n0 W μ s w μ' (s.push (.var t cs)) (w.alloc (.cells vs t)) := by
  refine ⟨μ.add s.nx (⟨w.heap.size, 0, none⟩, vs.size), ?_, Rel.alloc hR (.var t cs) _ _ fun μ' s' w' F hh => ?_, Fr.alloc hR _ _ _⟩
  · exact .ptr _ _ _ rfl (by simp) fun o ho => ⟨(⟨w.heap.size, 0, none⟩, vs.size), by simp [Mu.add], rfl⟩
  · exact ⟨rfl, rfl, vs, t, hh, hvs.mono F, rfl⟩

/-- box: a variable with a value. -/
theorem box_sound (hR : Rel E μ s w) (t : TypeId) {x : AV} {v : Value} (hf : x.fit = true) (hv : VR μ s w x v) :
    Yld E n0 W μ s w ((Instr.box t v).run E.P w) (.ptr s.nx 0) (s.push (.var t x.cells)) := by
  obtain ⟨hc, _⟩ := hv.cells hf
  obtain ⟨μ', h1, h2, h3⟩ := newVar_sound (n0 := n0) (W := W) hR t hc
  refine ⟨_, _, μ', ?_, h1, h2, h3⟩
  simp only [Instr.box, Sem.run_bind, run_newVar', Result.andThen_ok, Sem.run_pure]

/-- alloc: a variable with its type's zero value. -/
theorem alloc_sound (hR : Rel E μ s w) {t : TypeId} {x : TI} (ht : E.ti t = some x) :
    Yld E n0 W μ s w ((Instr.alloc t true (.tuple #[])).run E.P w) (.ptr s.nx 0) (s.push (.var t (x.zero.map ofConst))) := by
  obtain ⟨z, hz, hzz⟩ := run_zero' ht w
  have hvs : VRs μ s w (x.zero.map ofConst) z.cells := by
    refine ⟨by simp [← hzz], fun i y u hy hu => ?_⟩
    rw [← hzz] at hy
    simp only [List.getElem?_map, Array.getElem?_toList, hu, Option.map_some, Option.some.injEq] at hy
    subst hy
    exact .const u
  obtain ⟨μ', h1, h2, h3⟩ := newVar_sound (n0 := n0) (W := W) hR t hvs
  refine ⟨_, _, μ', ?_, h1, h2, h3⟩
  simp only [Instr.alloc, Sem.run_bind, hz, Result.andThen_ok]
  simp only [run_newVar', Result.andThen_ok, Sem.run_pure]
end
end Go.Am
namespace Go.Am

/-! ### storing cells -/
def splice {α : Type} (l : List α) (off : Nat) (xs : List α) : List α := l.take off ++ xs ++ l.drop (off + xs.length)
theorem splice_length {α : Type} (l : List α) (off : Nat) (xs : List α) (h : off + xs.length ≤ l.length) : (splice l off xs).length = l.length := by
  simp [splice]; omega
theorem splice_get {α : Type} (l : List α) (off : Nat) (xs : List α) (h : off + xs.length ≤ l.length) (i : Nat) :
    (splice l off xs)[i]? = if i < off then l[i]? else if i < off + xs.length then xs[i - off]? else l[i]? := by
  unfold splice
  rw [List.append_assoc, List.getElem?_append]
  have h1 : (l.take off).length = off := by simp; omega
  rw [h1]
  by_cases hi : i < off
  · simp [hi]
  · rw [if_neg hi, if_neg hi, List.getElem?_append]
    by_cases h2 : i < off + xs.length
    · rw [if_pos h2, if_pos (by omega)]
    · rw [if_neg h2, if_neg (by omega), List.getElem?_drop]
      congr 1; omega

/-- The cells of a block behind a store. -/
def asplice (vs : Array Value) (off : Nat) (xs : List Value) : Array Value := (splice vs.toList off xs).toArray
theorem asplice_get (vs : Array Value) (off : Nat) (xs : List Value) (h : off + xs.length ≤ vs.size) (i : Nat) :
    (asplice vs off xs)[i]? = if i < off then vs[i]? else if i < off + xs.length then xs[i - off]? else vs[i]? := by
  have := splice_get vs.toList off xs (by simpa using h) i
  simpa [asplice] using this
theorem asplice_size (vs : Array Value) (off : Nat) (xs : List Value) (h : off + xs.length ≤ vs.size) : (asplice vs off xs).size = vs.size := by
  have := splice_length vs.toList off xs (by simpa using h)
  simpa [asplice] using this
theorem asplice_nil (vs : Array Value) (off : Nat) : asplice vs off [] = vs := by
  simp [asplice, splice]
theorem asplice_cons (vs : Array Value) (off : Nat) (x : Value) (xs : List Value) (h : off + (x :: xs).length ≤ vs.size) :
    asplice (vs.setIfInBounds off x) (off + 1) xs = asplice vs off (x :: xs) := by
  apply Array.ext_getElem?
  intro i
  simp only [List.length_cons] at h
  rw [asplice_get _ _ _ (by simp; omega), asplice_get _ _ _ (by simp; omega)]
  simp only [List.length_cons, Array.getElem?_setIfInBounds]
  by_cases h1 : i < off
  · rw [if_pos (by omega), if_pos h1, if_neg (by omega)]
  · by_cases h2 : i = off
    · subst h2
      rw [if_pos (by omega), if_pos rfl, if_neg h1, if_pos (by omega)]
      simp
    · rw [if_neg (by omega), if_neg h1]
      by_cases h3 : i < off + 1 + xs.length
      · rw [if_pos h3, if_pos (by omega)]
        obtain ⟨k, rfl⟩ : ∃ k, i = off + 1 + k := ⟨i - (off + 1), by omega⟩
        rw [show off + 1 + k - (off + 1) = k by omega, show off + 1 + k - off = k + 1 by omega]
        simp
      · rw [if_neg h3, if_neg (by omega), if_neg (by omega)]

section
variable {E : Env} {n0 : Nat} {W : Nat → Prop} {μ μ' : Mu} {s s' : St} {w w' : World}

theorem setCell_eq (w : World) (a : Addr) (hs : a.spot = none) (v : Value) (c : Array Value) (t : TypeId) (fr : Nat × Nat) (h : w.heap[a.block]? = some (.cells c t fr)) :
    w.setCell a v = setBlock w a.block (.cells (c.setIfInBounds a.off v) t fr) := by
  unfold World.setCell setBlock
  congr 1
  apply Array.ext_getElem?
  intro i
  rw [Array.getElem?_modify, Array.getElem?_setIfInBounds]
  by_cases e : a.block = i
  · subst e
    have hlt := (Array.getElem?_eq_some_iff.1 h).1
    rw [if_pos rfl, if_pos rfl, if_pos hlt, h]
    simp [hs]
  · simp [e]

theorem setBlock_setBlock (w : World) (b : Nat) (o o' : Obj) : setBlock (setBlock w b o) b o' = setBlock w b o' := by
  unfold setBlock
  simp

theorem setBlock_same (w : World) (b : Nat) (o : Obj) (h : w.heap[b]? = some o) : setBlock w b o = w := by
  unfold setBlock
  have : w.heap.setIfInBounds b o = w.heap := by
    apply Array.ext_getElem?
    intro i
    rw [Array.getElem?_setIfInBounds]
    by_cases e : b = i
    · subst e; rw [if_pos rfl, if_pos (Array.getElem?_eq_some_iff.1 h).1, h]
    · simp [e]
  rw [this]

theorem run_storeCells' (P : Program) (a : Addr) (hs : a.spot = none) (t : TypeId) (lo hi : Nat) :
    ∀ (xs : List Value) (i : Nat) (w : World) (c : Array Value), w.heap[a.block]? = some (.cells c t (lo, hi)) → (∀ x ∈ xs, x.oneCell' = true) → a.off + i + xs.length ≤ c.size →
      (hi ≤ lo ∨ hi ≤ a.off + i ∨ a.off + i + xs.length ≤ lo) →
      (storeCells a xs i).run P w = .ok () (setBlock w a.block (.cells (asplice c (a.off + i) xs) t (lo, hi)))
  | [], i, w, c, h, _, _, _ => by
    rw [asplice_nil, setBlock_same _ _ _ h]
    simp [storeCells]
  | x :: xs, i, w, c, h, h1, h2, h3 => by
    simp only [List.length_cons] at h2 h3
    have hc : w.cell? (a.add i) = some (c[a.off + i]'(by omega)) := by rw [cell_of_heap h hs]; simp
    have hf : w.frozen? (a.add i) = false := by
      have e1 : (a.add i).block = a.block := Addr.add_block a i
      have e3 : (a.add i).off = a.off + i := by unfold Addr.add; split <;> simp_all
      unfold World.frozen?
      rw [e1, h]
      simp only [e3]
      simp
      omega
    have hset : w.setCell (a.add i) x = setBlock w a.block (.cells (c.setIfInBounds (a.off + i) x) t (lo, hi)) := by
      have e1 : (a.add i).block = a.block := Addr.add_block a i
      have e2 : (a.add i).spot = none := by unfold Addr.add; split <;> simp [hs]
      have e3 : (a.add i).off = a.off + i := by unfold Addr.add; split <;> simp_all
      rw [setCell_eq w (a.add i) e2 x c t (lo, hi) (by rw [e1]; exact h), e1, e3]
    have hlt : a.block < w.heap.size := (Array.getElem?_eq_some_iff.1 h).1
    have ih := run_storeCells' P a hs t lo hi xs (i + 1) (setBlock w a.block (.cells (c.setIfInBounds (a.off + i) x) t (lo, hi))) (c.setIfInBounds (a.off + i) x)
      (by rw [heap_setBlock, if_pos ⟨rfl, hlt⟩]) (fun y hy => h1 y (by simp [hy])) (by simp; omega) (by omega)
    simp only [storeCells, Sem.run_bind, run_store P w (a.add i) x .plain (h1 x (by simp)), hc, hf, Bool.false_eq_true, if_false, Result.andThen_ok, hset, ih]
    rw [setBlock_setBlock, ← Nat.add_assoc, asplice_cons _ _ _ _ (by simp; omega)]

/-- What a store does to the objects. -/
def astore (s : St) (x : AV) (cs : List AV) : Option St :=
  match x with
  | .ptr id off => match s.get id with
    | some (.var ty cs0) => if off + cs.length ≤ cs0.length then some (s.put id (.var ty (splice cs0 off cs))) else none
    | _ => none
  | .ep id i j => match s.get id with
    | some (.row sz (true, ty) es) => match es[i]? with
      | some e => if j + cs.length ≤ e.length then some (s.put id (.row sz (true, ty) (es.set i (splice e j cs)))) else none
      | none => none
    | _ => none
  | _ => none
def AV.may (n0 : Nat) (W : Nat → Prop) : AV → Prop
  | .ptr id _ | .ep id _ _ | .ls id _ _ | .map id | .it id => May n0 W id
  | _ => True

theorem get2_set {α : Type} (es : List (List α)) (i : Nat) (e : List α) (a b : Nat) : get2 (es.set i e) a b = if i = a ∧ i < es.length then e[b]? else get2 es a b := by
  unfold get2
  rw [List.getElem?_set]
  by_cases h : i = a
  · subst h
    by_cases h2 : i < es.length
    · simp [h2]
    · simp [h2]
  · simp [h]

theorem storeCells_sound (hR : Rel E μ s w) {p : AV} {v : Value} {cs : List AV} {vs : Array Value} {s' : St} (h : astore s p cs = some s') (hm : p.may n0 W) (hv : VR μ s w p v)
    (hvs : VRs μ s w cs vs) (hone : ∀ (i : Nat) u, vs[i]? = some u → u.oneCell' = true) :
    ∃ a w', v = .pointer (some a) ∧ (storeCells a vs.toList).run E.P w = .ok () w' ∧ Rel E μ s' w' ∧ Fr n0 W μ s w μ s' w' := by
  have hall : ∀ x ∈ vs.toList, x.oneCell' = true := fun x hx => by
    obtain ⟨i, hi, rfl⟩ := List.getElem_of_mem hx
    exact hone i _ (by simp at hi ⊢)
  have hlen : vs.toList.length = cs.length := by simp [hvs.1]
  cases hv with
  | ptr id off v _ hn hp =>
    simp only [astore] at h
    split at h
    · rename_i cs0 hs
      split at h
      · rename_i hle
        simp only [Option.some.injEq] at h
        subst h
        obtain ⟨p, hq, rfl⟩ := hp _ hs
        obtain ⟨_, o, ho, hr⟩ := hR.obj id p hq
        obtain rfl : o = .var _ cs0 := Option.some.inj (ho.symm.trans hs)
        obtain ⟨h0, hsp, us, t, hh, hus, hty⟩ := hr
        have e1 : (p.1.add off).block = p.1.block := Addr.add_block _ _
        have e2 : (p.1.add off).spot = none := by unfold Addr.add; split <;> simp [hsp]
        have e3 : (p.1.add off).off = off := by unfold Addr.add; split <;> simp_all
        have hsz : off + vs.toList.length ≤ us.size := by rw [← hus.1, hlen]; exact hle
        have hrun := run_storeCells' E.P (p.1.add off) e2 t 0 0 vs.toList 0 w us (by rw [e1]; exact hh) hall (by rw [e3]; simpa using hsz) (by simp)
        rw [e1, e3, Nat.add_zero] at hrun
        refine ⟨_, _, rfl, hrun, Rel.put hR hq hs _ ?_ _ fun s1 w1 F hw => ?_, Fr.put hR hq hm hs _ ?_ _⟩
        · simp only [AObj.shape]; rw [splice_length _ _ _ hle]
        · refine ⟨h0, hsp, _, t, hw, ⟨?_, fun i x u hx hu => ?_⟩, hty⟩
          · rw [splice_length _ _ _ hle, asplice_size _ _ _ hsz]; exact hus.1
          · rw [splice_get _ _ _ hle] at hx
            rw [asplice_get _ _ _ hsz, hlen] at hu
            split at hx
            · rw [if_pos (by assumption)] at hu
              exact (hus.2 i x u hx hu).mono F
            · rename_i h1
              rw [if_neg h1] at hu
              split at hx
              · rw [if_pos (by assumption)] at hu
                exact (hvs.2 _ x u hx (by simpa using hu)).mono F
              · rename_i h2
                rw [if_neg h2] at hu
                exact (hus.2 i x u hx hu).mono F
        · simp only [AObj.shape]; rw [splice_length _ _ _ hle]
      · cases h
    · cases h
  | ep id i j0 v _ hn hp =>
    simp only [astore] at h
    split at h
    · rename_i sz ty es hs
      split at h
      · rename_i e he
        split at h
        · rename_i hle
          simp only [Option.some.injEq] at h
          subst h
          obtain ⟨p, hq, rfl⟩ := hp _ _ _ hs
          obtain ⟨_, o, ho, hr⟩ := hR.obj id p hq
          obtain rfl : o = .row sz (true, ty) es := Option.some.inj (ho.symm.trans hs)
          obtain ⟨hsp, us, t, lo, hi, hh, hfr, hfr2, hroom, hroom2, hall2, hx⟩ := hr
          obtain ⟨hfr, hty⟩ := hfr
          obtain ⟨rfl, rfl⟩ := hfr rfl
          have hi : i < es.length := (List.getElem?_eq_some_iff.1 he).1
          have hes : e.length = sz := hall2 e (List.mem_of_getElem? he)
          have hmul : (i + 1) * sz ≤ es.length * sz := Nat.mul_le_mul_right _ hi
          rw [Nat.succ_mul] at hmul
          have e1 : (p.1.add (i * sz + j0)).block = p.1.block := Addr.add_block _ _
          have e2 : (p.1.add (i * sz + j0)).spot = none := by unfold Addr.add; split <;> simp [hsp]
          have e3 : (p.1.add (i * sz + j0)).off = p.1.off + (i * sz + j0) := by unfold Addr.add; split <;> simp_all
          have hsz : p.1.off + (i * sz + j0) + vs.toList.length ≤ us.size := by rw [hlen]; omega
          have hrun := run_storeCells' E.P (p.1.add (i * sz + j0)) e2 t 0 0 vs.toList 0 w us (by rw [e1]; exact hh) hall (by rw [e3]; simpa using hsz) (by simp)
          rw [e1, e3, Nat.add_zero] at hrun
          refine ⟨_, _, rfl, hrun, Rel.put hR hq hs (.row sz (true, ty) (es.set i (splice e j0 cs))) rfl _ fun s1 w1 F hw => ?_, Fr.put hR hq hm hs (.row sz (true, ty) (es.set i (splice e j0 cs))) rfl _⟩
          refine ⟨hsp, _, t, 0, 0, hw, ⟨fun _ => ⟨rfl, rfl⟩, hty⟩, by simp, ?_, by simpa using hroom2, fun e' he' => ?_, fun a b x hx' => ?_⟩
          · rw [asplice_size _ _ _ hsz]; exact hroom
          · rcases List.mem_or_eq_of_mem_set he' with h1 | h1
            · exact hall2 e' h1
            · rw [h1, splice_length _ _ _ hle, hes]
          · rw [get2_set] at hx'
            rw [asplice_get _ _ _ hsz, hlen]
            by_cases ha : i = a ∧ i < es.length
            · rw [if_pos ha] at hx'
              obtain ⟨rfl, _⟩ := ha
              have hb : b < sz := by
                have := (List.getElem?_eq_some_iff.1 hx').1
                rw [splice_length _ _ _ hle, hes] at this
                exact this
              rw [splice_get _ _ _ hle] at hx'
              by_cases h1 : b < j0
              · rw [if_pos h1] at hx'
                rw [if_pos (by omega)]
                obtain ⟨u, hu, hvu⟩ := hx i b x (by simp [get2, he, hx'])
                exact ⟨u, hu, hvu.mono F⟩
              · rw [if_neg h1] at hx'
                rw [if_neg (by omega)]
                by_cases h2 : b < j0 + cs.length
                · rw [if_pos h2] at hx'
                  rw [if_pos (by omega)]
                  have hlt : b - j0 < vs.size := by rw [← hvs.1]; omega
                  refine ⟨vs[b - j0], ?_, (hvs.2 (b - j0) x _ hx' (Array.getElem?_eq_getElem hlt)).mono F⟩
                  rw [show p.1.off + (i * sz + b) - (p.1.off + (i * sz + j0)) = b - j0 by omega]
                  simp [hlt]
                · rw [if_neg h2] at hx'
                  rw [if_neg (by omega)]
                  obtain ⟨u, hu, hvu⟩ := hx i b x (by simp [get2, he, hx'])
                  exact ⟨u, hu, hvu.mono F⟩
            · rw [if_neg ha] at hx'
              obtain ⟨u, hu, hvu⟩ := hx a b x hx'
              have hb : a < es.length ∧ b < sz := by
                unfold get2 at hx'
                cases hg : es[a]? with
                | none => simp [hg] at hx'
                | some e' =>
                  simp [hg] at hx'
                  exact ⟨(List.getElem?_eq_some_iff.1 hg).1, by rw [← hall2 e' (List.mem_of_getElem? hg)]; exact (List.getElem?_eq_some_iff.1 hx').1⟩
              have hne : i ≠ a := fun e => ha ⟨e, hi⟩
              have hdis : (a * sz + b < i * sz) ∨ (i * sz + sz ≤ a * sz + b) := by
                rcases Nat.lt_or_gt_of_ne hne with h1 | h1
                · right
                  have : (i + 1) * sz ≤ a * sz := Nat.mul_le_mul_right _ h1
                  rw [Nat.succ_mul] at this
                  omega
                · left
                  have : (a + 1) * sz ≤ i * sz := Nat.mul_le_mul_right _ h1
                  rw [Nat.succ_mul] at this
                  omega
              rcases hdis with h1 | h1
              · rw [if_pos (by omega)]
                exact ⟨u, hu, hvu.mono F⟩
              · rw [if_neg (by omega), if_neg (by omega)]
                exact ⟨u, hu, hvu.mono F⟩
        · cases h
      · cases h
    · cases h
  | _ => simp [astore] at h

/-- store -/
theorem store_sound (hR : Rel E μ s w) {t : TypeId} {x : TI} (ht : E.ti t = some x) {p y : AV} {v u : Value} {s' : St} (hf : y.fit = true) (hl : y.cells.length = x.size)
    (h : astore s p y.cells = some s') (hm : p.may n0 W) (hv : VR μ s w p v) (hu : VR μ s w y u) :
    ∃ w', (Instr.storeAt t v u).run E.P w = .ok () w' ∧ Rel E μ s' w' ∧ Fr n0 W μ s w μ s' w' := by
  obtain ⟨hc, hone⟩ := hu.cells hf
  obtain ⟨a, w', rfl, hrun, h1, h2⟩ := storeCells_sound hR h hm hv hc hone
  refine ⟨w', ?_, h1, h2⟩
  have hsz : u.cells.size = x.size := by rw [← hc.1, hl]
  simp only [Instr.storeAt, Instr.sureAddr, storeVar, Sem.run_bind, Sem.run_pure, Result.andThen_ok, run_sizeOf' ht, hsz]
  simp [hrun]
end
end Go.Am
namespace Go.Am

section
variable {E : Env} {n0 : Nat} {W : Nat → Prop} {μ μ' : Mu} {s s' : St} {w w' : World}

/-! ### rows of elements -/
theorem get2_lt {α : Type} {es : List (List α)} {sz i j : Nat} {x : α} (hall : ∀ e ∈ es, e.length = sz) (h : get2 es i j = some x) : i < es.length ∧ j < sz := by
  unfold get2 at h
  cases hg : es[i]? with
  | none => simp [hg] at h
  | some e =>
    simp [hg] at h
    exact ⟨(List.getElem?_eq_some_iff.1 hg).1, by rw [← hall e (List.mem_of_getElem? hg)]; exact (List.getElem?_eq_some_iff.1 h).1⟩
theorem idx_lt {i j n sz : Nat} (hi : i < n) (hj : j < sz) : i * sz + j < n * sz := by
  have : (i + 1) * sz ≤ n * sz := Nat.mul_le_mul_right _ hi
  rw [Nat.succ_mul] at this
  omega
theorem idx_div {i j sz : Nat} (hj : j < sz) : (i * sz + j) / sz = i ∧ (i * sz + j) % sz = j := by
  have h0 : 0 < sz := by omega
  constructor
  · rw [Nat.mul_comm, Nat.mul_add_div h0, Nat.div_eq_of_lt hj, Nat.add_zero]
  · rw [Nat.mul_comm, Nat.mul_add_mod, Nat.mod_eq_of_lt hj]

/-- The elements that a slice (or a string) reads as. -/
def ard (s : St) (x : AV) : Option (List (List AV)) :=
  match x with
  | .nsl => some []
  | .sl xs => some xs
  | .ls id off len => match s.get id with
    | some (.row _ _ es) => if off + len ≤ es.length then some ((es.drop off).take len) else none
    | _ => none
  | .str b => some (b.map fun c => [.int .u8 (c.toNat : Int)])
  | _ => none

theorem get2_take_drop {α : Type} (es : List (List α)) (off len i j : Nat) (x : α) (h : get2 ((es.drop off).take len) i j = some x) : i < len ∧ get2 es (off + i) j = some x := by
  unfold get2 at *
  cases hg : ((es.drop off).take len)[i]? with
  | none => simp [hg] at h
  | some e =>
    obtain ⟨h1, h2⟩ := take_drop_get _ _ _ _ _ hg
    refine ⟨h1, ?_⟩
    rw [h2]
    simpa [hg] using h

/-- Cells, as a flat row, of elements. -/
def Flat (μ : Mu) (s : St) (w : World) (sz : Nat) (es : List (List AV)) (g : Nat → Value) : Prop :=
  ∀ i j x, get2 es i j = some x → VR μ s w x (g (i * sz + j))

theorem ofArray_get (vs : Array Value) (i : Nat) (v : Value) (h : vs[i]? = some v) : (vs.getD i undef) = v := by
  simp [h]

/-- Reading what is appended or copied. -/
theorem firstCells_sound (hR : Rel E μ s w) {x : AV} {v : Value} {ys : List (List AV)} {sz : Nat} (h : ard s x = some ys) (hall : ∀ y ∈ ys, y.length = sz) (hv : VR μ s w x v) (m : Nat) (hm : m ≤ ys.length)
    (hstr : (∃ b, x = .str b) → sz = 1) :
    (Builtin.lenOf v).run E.P w = .ok ys.length w ∧ ∃ g : Nat → Value, (Builtin.firstCells sz m v).run E.P w = .ok ((List.range (m * sz)).map g).toArray w ∧ Flat μ s w sz (ys.take m) g := by
  cases hv with
  | nsl =>
    simp only [ard, Option.some.injEq] at h
    subst h
    refine ⟨by simp [Builtin.lenOf], fun _ => undef, ?_, fun i j x hx => by simp [get2] at hx⟩
    obtain rfl : m = 0 := by simpa using hm
    simp [Builtin.firstCells]
  | slnil a =>
    simp only [ard, Option.some.injEq] at h
    subst h
    refine ⟨by simp [Builtin.lenOf], fun _ => undef, ?_, fun i j x hx => by simp [get2] at hx⟩
    obtain rfl : m = 0 := by simpa using hm
    cases a <;> simp [Builtin.firstCells, loadCells, loadCellsFrom]
  | sl xs a cap sz0 vs hb hmf hsp hcap hsz hc hvs =>
    simp only [ard, Option.some.injEq] at h
    subst h
    refine ⟨by simp [Builtin.lenOf], fun k => vs (k / sz) (k % sz), ?_, fun i j x hx => ?_⟩
    · simp only [Builtin.firstCells]
      refine run_loadCells w a (m * sz) _ fun k hk => ?_
      have hsz0 : 0 < sz := by
        rcases Nat.eq_zero_or_pos sz with h0 | h0
        · subst h0; simp at hk
        · exact h0
      have hi : k / sz < xs.length := by
        have : k / sz < m := Nat.div_lt_of_lt_mul (by rw [Nat.mul_comm]; exact hk)
        omega
      have hj : k % sz < sz := Nat.mod_lt _ hsz0
      have hlen : (xs[k / sz]).length = sz := hall _ (List.getElem_mem hi)
      have e0 : sz0 = sz := by rw [← hsz _ (List.getElem_mem hi), hlen]
      have hx : get2 xs (k / sz) (k % sz) = some ((xs[k / sz])[k % sz]'(by omega)) := by simp [get2, hi, hlen, hj]
      have := hc _ _ _ hx
      rw [e0, Nat.mul_comm, Nat.div_add_mod] at this
      exact this
    · have hx' : get2 xs i j = some x := by
        have := get2_take_drop xs 0 m i j x (by simpa using hx)
        simpa using this.2
      obtain ⟨_, hj⟩ := get2_lt hall hx'
      show VR μ s w x (vs ((i * sz + j) / sz) ((i * sz + j) % sz))
      rw [(idx_div hj).1, (idx_div hj).2]
      exact hvs _ _ _ hx'
  | ls id off len v _ hn hp =>
    simp only [ard] at h
    split at h
    · rename_i sz0 wr es hs
      split at h
      · rename_i hle
        simp only [Option.some.injEq] at h
        subst h
        have hlen : ((es.drop off).take len).length = len := by simp; omega
        rw [hlen] at hm ⊢
        rcases hp _ _ _ hs with ⟨rfl, a0, rfl⟩ | ⟨p, cap, hq, rfl, _, _⟩
        · obtain rfl : m = 0 := by omega
          refine ⟨by simp [Builtin.lenOf], fun _ => undef, ?_, fun i j x hx => by simp [get2] at hx⟩
          cases a0 <;> simp [Builtin.firstCells, loadCells, loadCellsFrom]
        · obtain ⟨_, o, ho, hr⟩ := hR.obj id p hq
          obtain rfl : o = .row sz0 wr es := Option.some.inj (ho.symm.trans hs)
          obtain ⟨hsp, us, t, lo, hi, hh, _, _, hroom, hroom2, hall2, hx⟩ := hr
          have hszeq : 0 < len → sz0 = sz := fun hl => by
            have h1 : off < es.length := by omega
            have h2 := hall2 _ (List.getElem_mem h1)
            have h3 := hall (es[off]) (by
              refine List.mem_of_getElem? (i := 0) ?_
              simp [hl, List.getElem?_eq_getElem h1])
            omega
          refine ⟨by simp [Builtin.lenOf], fun k => us.getD (p.1.off + (off * sz + k)) undef, ?_, fun i j x hx' => ?_⟩
          · simp only [Builtin.firstCells]
            refine run_loadCells w _ (m * sz) _ fun k hk => ?_
            have hm0 : 0 < m := by
              rcases Nat.eq_zero_or_pos m with h0 | h0
              · subst h0; simp at hk
              · exact h0
            obtain rfl := hszeq (by omega)
            have hb : (off + m) * sz0 ≤ es.length * sz0 := Nat.mul_le_mul_right _ (by omega)
            rw [Nat.add_mul] at hb
            have hlt : p.1.off + (off * sz0 + k) < us.size := by omega
            rw [Addr.add_add, cell_of_heap hh hsp]
            simp [hlt]
          · have h1 := get2_take_drop _ _ _ _ _ _ (show get2 (((es.drop off).take len).drop 0 |>.take m) i j = some x by simpa using hx')
            have h2 := get2_take_drop _ _ _ _ _ _ h1.2
            obtain ⟨u, hu, hvu⟩ := hx _ _ _ h2.2
            obtain rfl := hszeq (by omega)
            have e1 : off * sz0 + (i * sz0 + j) = (off + (0 + i)) * sz0 + j := by rw [Nat.zero_add, Nat.add_mul]; omega
            show VR μ s w x (us.getD (p.1.off + (off * sz0 + (i * sz0 + j))) undef)
            rw [e1, ofArray_get us _ u hu]
            exact hvu
      · cases h
    · cases h
  | str b =>
    simp only [ard, Option.some.injEq] at h
    subst h
    obtain rfl := hstr ⟨_, rfl⟩
    have hsize : b.data.toList.length = b.size := by simp
    refine ⟨by simp [Builtin.lenOf], fun k => .int .u8 ((b.data.getD k 0).toNat : Int), ?_, fun i j x hx => ?_⟩
    · simp only [Builtin.firstCells, Sem.run_pure, Result.ok.injEq, and_true]
      simp only [List.length_map, hsize] at hm
      apply Array.ext
      · simp; omega
      · intro i h1 h2
        simp at h1 h2
        have hi : i < b.data.size := by show i < b.size; omega
        simp only [Array.getElem_map, ByteArray.data_extract, List.getElem_toArray, List.getElem_map, List.getElem_range, Array.getElem_extract]
        simp only [Nat.zero_add, Array.getD_eq_getD_getElem?, Array.getElem?_eq_getElem hi, Option.getD_some]
    · simp only [get2, List.getElem?_map, List.getElem?_take] at hx
      cases hg : (b.data.toList)[i]? with
      | none => simp [hg] at hx
      | some c =>
        simp only [hg] at hx
        split at hx
        · simp at hx
          cases j with
          | zero =>
            simp at hx
            subst hx
            have : b.data.getD i 0 = c := by
              simp at hg
              simp [hg]
            simp only [Nat.mul_one, Nat.add_zero, this]
            exact .int _ _
          | succ j => simp at hx
        · simp at hx
  | _ => simp [ard] at h
end
end Go.Am
namespace Go.Am

def Mu.del (μ : Mu) (n : Nat) : Mu := fun j => if j = n then none else μ j

section
variable {E : Env} {n0 : Nat} {W : Nat → Prop} {μ μ' : Mu} {s s' : St} {w w' : World}

/-- An object is forgotten. -/
theorem Fr.drop (h : Rel E μ s w) {id : Nat} (hm : May n0 W id) : Fr n0 W μ s w (μ.del id) (s.drop id) w where
  os := rfl
  tape := rfl
  output := rfl
  size := Nat.le_refl _
  nx := Nat.le_refl _
  blocks _ _ _ := rfl
  keep i p _ hp ho := by
    obtain ⟨o, ho⟩ := ho
    rw [St.get_drop] at ho
    by_cases e : i = id
    · simp [e] at ho
    · simp [Mu.del, e, hp]
  old i p _ hp := by
    by_cases e : i = id
    · simp [Mu.del, e] at hp
    · simpa [Mu.del, e] using hp
  new i p hi hp := by
    by_cases e : i = id
    · simp [Mu.del, e] at hp
    · simp [Mu.del, e] at hp
      exact absurd (h.lt i p hp) (by omega)
  shape i o _ ho := by
    rw [St.get_drop] at ho
    by_cases e : i = id
    · simp [e] at ho
    · rw [if_neg e] at ho
      exact ⟨o, ho, rfl⟩
  same i _ hi := by
    rw [St.get_drop, if_neg]
    rintro rfl
    exact hi hm

theorem Rel.drop (h : Rel E μ s w) (id : Nat) : Rel E (μ.del id) (s.drop id) w where
  obj i p hp := by
    by_cases e : i = id
    · simp [Mu.del, e] at hp
    · simp [Mu.del, e] at hp
      obtain ⟨h1, o, h2, h3⟩ := h.obj i p hp
      exact ⟨h1, o, by rw [St.get_drop, if_neg e]; exact h2, h3.mono (Fr.drop (n0 := id) (W := fun _ => False) h (.inr (Nat.le_refl _))) rfl⟩
  inj i j p q hi hj hb := by
    by_cases ei : i = id
    · simp [Mu.del, ei] at hi
    · by_cases ej : j = id
      · simp [Mu.del, ej] at hj
      · simp [Mu.del, ei] at hi
        simp [Mu.del, ej] at hj
        exact h.inj i j p q hi hj hb
  lo i p hp := by
    by_cases ei : i = id
    · simp [Mu.del, ei] at hp
    · simp [Mu.del, ei] at hp
      exact h.lo i p hp
  gl := h.gl
  size := h.size
  tape := h.tape
  os := h.os

/-- A new object that lies nowhere (an empty row that may be nil). -/
theorem Fr.ghost (h : Rel E μ s w) (o : AObj) : Fr n0 W μ s w μ (s.push o) w where
  os := rfl
  tape := rfl
  output := rfl
  size := Nat.le_refl _
  nx := by simp
  blocks _ _ _ := rfl
  keep _ _ _ h _ := h
  old _ _ _ h := h
  new i p hi hp := absurd (h.lt i p hp) (by omega)
  shape i o' hi ho := by
    rw [St.get_push, if_neg (Nat.ne_of_lt hi)] at ho
    exact ⟨o', ho, rfl⟩
  same i hi _ := by rw [St.get_push, if_neg (Nat.ne_of_lt hi)]
theorem Rel.ghost (h : Rel E μ s w) (o : AObj) : Rel E μ (s.push o) w where
  obj i p hp := by
    obtain ⟨h1, o1, h2, h3⟩ := h.obj i p hp
    exact ⟨by simp; omega, o1, by rw [St.get_push, if_neg (Nat.ne_of_lt h1)]; exact h2, h3.mono (Fr.ghost (n0 := 0) (W := fun _ => False) h o) rfl⟩
  inj := h.inj
  lo := h.lo
  gl := h.gl
  size := h.size
  tape := h.tape
  os := h.os

/-- A draw. -/
theorem Fr.drew (h : Rel E μ s w) (n : Nat) : Fr n0 W μ s w μ s { w with drawn := n } :=
  let F : Fr n0 W μ s w μ s w := h.refl
  ⟨F.os, F.tape, F.output, F.size, F.nx, F.blocks, F.keep, F.old, F.new, F.shape, F.same⟩
theorem Rel.drew (h : Rel E μ s w) (n : Nat) : Rel E μ s { w with drawn := n } where
  obj i p hp := by
    obtain ⟨h1, o1, h2, h3⟩ := h.obj i p hp
    exact ⟨h1, o1, h2, h3.mono (Fr.drew (n0 := 0) (W := fun _ => False) h n) rfl⟩
  inj := h.inj
  lo := h.lo
  gl := h.gl
  size := h.size
  tape := h.tape
  os := h.os

/-- An object goes on under a new number, in its own block. -/
theorem Fr.renew (h : Rel E μ s w) {id : Nat} {p q : Addr × Nat} (hp : μ id = some p) (hm : May n0 W id) (hq : q.1.block = p.1.block) (o' : AObj) (ob : Obj) :
    Fr n0 W μ s w ((μ.del id).add s.nx q) ((s.drop id).push o') (setBlock w p.1.block ob) where
  os := rfl
  tape := rfl
  output := rfl
  size := by simp
  nx := by simp
  blocks b _ hb := by
    rw [heap_setBlock, if_neg]
    rintro ⟨e, _⟩
    exact hb id p hm hp e
  keep i r hi hr ho := by
    obtain ⟨o, ho⟩ := ho
    have hne : i ≠ s.nx := Nat.ne_of_lt hi
    rw [St.get_push, St.get_drop, St.nx_drop, if_neg hne] at ho
    by_cases e : i = id
    · simp [e] at ho
    · simp [Mu.add, Mu.del, hne, e, hr]
  old i r hi hr := by
    have hne : i ≠ s.nx := Nat.ne_of_lt hi
    by_cases e : i = id
    · subst e; simp [Mu.add, Mu.del, hne] at hr
    · simpa [Mu.add, Mu.del, hne, e] using hr
  new i r hi hr := by
    by_cases e : i = s.nx
    · subst e
      simp [Mu.add] at hr
      subst hr
      exact .inr ⟨id, p, hm, hp, hq.symm⟩
    · by_cases e2 : i = id
      · simp [Mu.add, Mu.del, e, e2] at hr
        exact absurd (h.lt id p hp) (by omega)
      · simp [Mu.add, Mu.del, e, e2] at hr
        exact absurd (h.lt i r hr) (by omega)
  shape i o hi ho := by
    have hne : i ≠ s.nx := Nat.ne_of_lt hi
    rw [St.get_push, St.get_drop, St.nx_drop, if_neg hne] at ho
    by_cases e : i = id
    · simp [e] at ho
    · rw [if_neg e] at ho
      exact ⟨o, ho, rfl⟩
  same i hi hmi := by
    have hne : i ≠ s.nx := Nat.ne_of_lt hi
    rw [St.get_push, St.get_drop, St.nx_drop, if_neg hne, if_neg]
    rintro rfl
    exact hmi hm

theorem Rel.renew (h : Rel E μ s w) {id : Nat} {p q : Addr × Nat} (hp : μ id = some p) (hq : q.1.block = p.1.block) (o' : AObj) (ob : Obj)
    (hr : ∀ μ' s' w', Fr id (fun _ => False) μ s w μ' s' w' → w'.heap[p.1.block]? = some ob → ORel μ' s' w' q o') :
    Rel E ((μ.del id).add s.nx q) ((s.drop id).push o') (setBlock w p.1.block ob) where
  obj i r hir := by
    have F : Fr id (fun _ => False) μ s w ((μ.del id).add s.nx q) ((s.drop id).push o') (setBlock w p.1.block ob) := Fr.renew h hp (.inr (Nat.le_refl _)) hq o' ob
    by_cases e : i = s.nx
    · subst e
      simp [Mu.add] at hir
      subst hir
      refine ⟨by simp, o', by simp [St.get_push], hr _ _ _ F ?_⟩
      rw [heap_setBlock, if_pos ⟨rfl, h.block_lt hp⟩]
    · by_cases e2 : i = id
      · simp [Mu.add, Mu.del, e, e2] at hir
        have h1 := h.lt id p hp
        have h2 := hir.1
        omega
      · simp [Mu.add, Mu.del, e, e2] at hir
        obtain ⟨h1, o1, h2, h3⟩ := h.obj i r hir
        refine ⟨by simp; omega, o1, by rw [St.get_push, St.get_drop, St.nx_drop, if_neg e, if_neg e2]; exact h2, h3.mono F ?_⟩
        rw [heap_setBlock, if_neg]
        rintro ⟨eb, _⟩
        exact e2 (h.inj i id r p hir hp eb.symm)
  inj i j a b hi hj hb := by
    have key : ∀ k c, ((μ.del id).add s.nx q) k = some c → (k = s.nx ∧ c = q) ∨ (k ≠ s.nx ∧ k ≠ id ∧ μ k = some c) := by
      intro k c hk
      by_cases e : k = s.nx
      · subst e
        simp [Mu.add] at hk
        exact .inl ⟨rfl, hk.symm⟩
      · by_cases e2 : k = id
        · have := h.lt id p hp
          simp [Mu.add, Mu.del, e, e2] at hk
          have := hk.1
          omega
        · simp [Mu.add, Mu.del, e, e2] at hk
          exact .inr ⟨e, e2, hk⟩
    rcases key i a hi with ⟨rfl, rfl⟩ | ⟨hi1, hi2, hi3⟩ <;> rcases key j b hj with ⟨rfl, rfl⟩ | ⟨hj1, hj2, hj3⟩
    · rfl
    · exact absurd (h.inj j id b p hj3 hp (by rw [← hb, hq])) hj2
    · exact absurd (h.inj i id a p hi3 hp (by rw [hb, hq])) hi2
    · exact h.inj i j a b hi3 hj3 hb
  lo i r hir := by
    by_cases e : i = s.nx
    · subst e
      simp [Mu.add] at hir
      subst hir
      rw [hq]
      exact h.lo id p hp
    · by_cases e2 : i = id
      · have := h.lt id p hp
        simp [Mu.add, Mu.del, e, e2] at hir
        have := hir.1
        omega
      · simp [Mu.add, Mu.del, e, e2] at hir
        exact h.lo i r hir
  gl b hb := by
    rw [heap_setBlock, if_neg]
    · exact h.gl b hb
    · rintro ⟨e, _⟩
      have := h.lo id p hp
      omega
  size := by have := h.size; simpa using this
  tape := h.tape
  os := h.os

/-! ### a new row -/
theorem newRow_sound (hR : Rel E μ s w) (t : TypeId) (sz : Nat) (wr : Bool) (es : List (List AV)) (vs : Array Value) (cap : Nat) (hcap : es.length ≤ cap) (hroom : cap * sz ≤ vs.size)
    (hall : ∀ e ∈ es, e.length = sz) (hx : ∀ i j x, get2 es i j = some x → ∃ v, vs[i * sz + j]? = some v ∧ VR μ s w x v) :
    ∃ μ', VR μ' (s.push (.row sz (wr, t) es)) (w.alloc (.cells vs t)) (.ls s.nx 0 es.length) (.slice (some ⟨w.heap.size, 0, none⟩) es.length cap) ∧
      Rel E μ' (s.push (.row sz (wr, t) es)) (w.alloc (.cells vs t)) ∧ Fr n0 W μ s w μ' (s.push (.row sz (wr, t) es)) (w.alloc (.cells vs t)) := by
  refine ⟨μ.add s.nx (⟨w.heap.size, 0, none⟩, vs.size), ?_, Rel.alloc hR (.row sz (wr, t) es) _ _ fun μ' s' w' F hh => ?_, Fr.alloc hR _ _ _⟩
  · refine .ls _ _ _ _ rfl (by simp) fun sz' wr' es' ho => ?_
    rw [St.get_push_same] at ho
    simp only [Option.some.injEq, AObj.row.injEq] at ho
    obtain ⟨rfl, rfl, rfl⟩ := ho
    exact .inr ⟨(⟨w.heap.size, 0, none⟩, vs.size), cap, by simp [Mu.add], by simp [Addr.add], hcap, by simpa using hroom⟩
  · have hmul : es.length * sz ≤ cap * sz := Nat.mul_le_mul_right _ hcap
    refine ⟨rfl, vs, t, 0, 0, hh, ⟨fun _ => ⟨rfl, rfl⟩, rfl⟩, .inr (Nat.le_refl _), by simp, by simp; omega, hall, fun i j x hxx => ?_⟩
    obtain ⟨v, hv, hr⟩ := hx i j x hxx
    exact ⟨v, by simpa using hv, hr.mono F⟩
end
end Go.Am
namespace Go.Am

section
variable {E : Env} {n0 : Nat} {W : Nat → Prop} {μ μ' : Mu} {s s' : St} {w w' : World}

/-- append -/
def aappend (s : St) (b : AV) (ys : List (List AV)) (e : TypeId) (sz bytes : Nat) : Option (AV × St) :=
  if ys.all (fun y => y.length == sz && y.all AV.one) then
    match b with
    | .nsl => if ys.length * bytes ≤ 2 ^ 47 then some (.ls s.nx 0 ys.length, s.push (.row sz (true, e) ys)) else none
    | .ls id off len => match s.get id with
      | some (.row sz' wr es) => if (wr.2 = e ∧ sz' = sz) ∧ off + len = es.length ∧ (len + ys.length) * bytes ≤ 2 ^ 47 then
          some (.ls s.nx 0 (len + ys.length), (s.drop id).push (.row sz wr (es.drop off ++ ys))) else none
      | _ => none
    | _ => none
  else none

theorem get2_append {α : Type} (a b : List (List α)) (i j : Nat) : get2 (a ++ b) i j = if i < a.length then get2 a i j else get2 b (i - a.length) j := by
  unfold get2
  rw [List.getElem?_append]
  split <;> rfl
theorem get2_drop {α : Type} (a : List (List α)) (n i j : Nat) : get2 (a.drop n) i j = get2 a (n + i) j := by
  unfold get2
  rw [List.getElem?_drop]

theorem range_get (g : Nat → Value) (n k : Nat) (h : k < n) : (((List.range n).map g).toArray)[k]? = some (g k) := by
  simp [h]

theorem grow_sound (hR : Rel E μ s w) {n0 : Nat} {W : Nat → Prop} (e : TypeId) (sz : Nat) (wr : Bool) (es ys : List (List AV)) (g1 g2 : Nat → Value) (need cap : Nat) (rest : Array Value)
    (hes : ∀ y ∈ es, y.length = sz) (hys : ∀ y ∈ ys, y.length = sz) (h1 : Flat μ s w sz es g1) (h2 : Flat μ s w sz ys g2) (hneed : need = es.length + ys.length) (hcap : need ≤ cap)
    (hrest : rest.size = (cap - need) * sz) :
    ∃ w' μ', (newRow e (((List.range (es.length * sz)).map g1).toArray ++ ((List.range (ys.length * sz)).map g2).toArray ++ rest)).run E.P w = .ok ⟨w.heap.size, 0, none⟩ w' ∧
      VR μ' (s.push (.row sz (wr, e) (es ++ ys))) w' (.ls s.nx 0 need) (.slice (some ⟨w.heap.size, 0, none⟩) need cap) ∧ Rel E μ' (s.push (.row sz (wr, e) (es ++ ys))) w' ∧
      Fr n0 W μ s w μ' (s.push (.row sz (wr, e) (es ++ ys))) w' := by
  have hall : ∀ y ∈ es ++ ys, y.length = sz := fun y hy => (List.mem_append.1 hy).elim (hes y) (hys y)
  have hlen : (es ++ ys).length = need := by simp [hneed]
  obtain ⟨μ', a1, a2, a3⟩ := newRow_sound (n0 := n0) (W := W) hR e sz wr (es ++ ys) (((List.range (es.length * sz)).map g1).toArray ++ ((List.range (ys.length * sz)).map g2).toArray ++ rest) cap (by omega)
    (by simp [hrest]; rw [← Nat.add_mul, ← Nat.add_mul]; exact Nat.mul_le_mul_right _ (by omega)) hall (fun i j x hx => by
      obtain ⟨hi, hj⟩ := get2_lt hall hx
      rw [get2_append] at hx
      by_cases hi2 : i < es.length
      · rw [if_pos hi2] at hx
        refine ⟨g1 (i * sz + j), ?_, h1 i j x hx⟩
        have := idx_lt hi2 hj
        rw [Array.getElem?_append_left (by simp; omega), Array.getElem?_append_left (by simp; omega), range_get _ _ _ this]
      · rw [if_neg hi2] at hx
        have hi3 : i - es.length < ys.length := by simp at hi; omega
        refine ⟨g2 ((i - es.length) * sz + j), ?_, h2 _ j x hx⟩
        have hlt := idx_lt hi3 hj
        have e1 : i * sz + j = es.length * sz + ((i - es.length) * sz + j) := by
          rw [← Nat.add_assoc, ← Nat.add_mul, Nat.add_sub_cancel' (by omega)]
        rw [Array.getElem?_append_left (by simp; omega), e1, Array.getElem?_append_right (by simp)]
        simp only [List.size_toArray, List.length_map, List.length_range, Nat.add_sub_cancel_left]
        exact range_get _ _ _ hlt)
  rw [hlen] at a1
  exact ⟨_, μ', by simp only [newRow, Sem.run_bind, run_newObj, Result.andThen_ok, Sem.run_pure]; rfl, a1, a2, a3⟩

theorem zeroCells_size (zero : Array Value) (n : Nat) : (Builtin.zeroCells zero n).size = n * zero.size := by simp [Builtin.zeroCells]

theorem appendCap_not_forced (a b e : Nat) : (Question.appendCap a b e).forced = false := rfl
theorem le_appendCap (need old e t : Nat) : need ≤ (Question.appendCap need old e).cut t := Nat.le_add_right _ _

/-- What is appended, as the base's laws want it. -/
theorem src_of (hR : Rel E μ s w) {X : TypeId} {tX : TI} (hX : E.ti X = some tX) (hk : (∃ e, tX.desc = .slice e) ∨ tX.desc = .string) {x : AV} {vx : Value} {ys : List (List AV)} {sz : Nat}
    (hard : ard s x = some ys) (hall : ∀ y ∈ ys, y.length = sz) (hone : ∀ i j z, get2 ys i j = some z → z.one = true) (hstr : (∃ b, x = .str b) → sz = 1) (hx : VR μ s w x vx) :
    ∃ g, Src E.P sz X vx ys.length ((List.range (ys.length * sz)).map g) w ∧ Flat μ s w sz ys g := by
  obtain ⟨hlen, g, hcells, hflat⟩ := firstCells_sound hR hard hall hx ys.length (Nat.le_refl _) hstr
  rw [List.take_length] at hflat
  have hRd := hR.drew (w.drawn + 1)
  have hxd : VR μ s w.drew x vx := hx.mono (Fr.drew (n0 := 0) (W := fun _ => False) hR (w.drawn + 1))
  obtain ⟨_, g', hcells', hflat'⟩ := firstCells_sound hRd hard hall hxd ys.length (Nat.le_refl _) hstr
  obtain ⟨_, hd, _⟩ := ti_parts hX
  have lenB : ∀ (w1 : World), (Builtin.lenOf vx).run E.P w1 = .ok ys.length w1 := fun w1 => by
    cases vx <;> simp [Builtin.lenOf] at hlen ⊢ <;> exact hlen
  have one_of : ∀ (w1 : World) (g1 : Nat → Value), Flat μ s w1 sz ys g1 → ∀ k, k < ys.length * sz → (g1 k).oneCell' = true := fun w1 g1 hf k hk => by
    have h0 : 0 < sz := by
      rcases Nat.eq_zero_or_pos sz with h0 | h0
      · subst h0; simp at hk
      · exact h0
    have hi : k / sz < ys.length := Nat.div_lt_of_lt_mul (by rw [Nat.mul_comm]; exact hk)
    have hj : k % sz < sz := Nat.mod_lt _ h0
    have hl := hall _ (List.getElem_mem hi)
    have hg : get2 ys (k / sz) (k % sz) = some ((ys[k / sz])[k % sz]'(by omega)) := by simp [get2, hi, hl, hj]
    have := (hf _ _ _ hg).oneCell (hone _ _ _ hg)
    rwa [Nat.mul_comm, Nat.div_add_mod] at this
  have hgg : (List.range (ys.length * sz)).map g' = (List.range (ys.length * sz)).map g := by
    have e1 : (Builtin.firstCells sz ys.length vx).run E.P w.drew = .ok ((List.range (ys.length * sz)).map g).toArray w.drew := by
      cases vx with
      | slice a n c =>
        cases a with
        | none => simpa [Builtin.firstCells] using hcells
        | some a =>
          simp only [Builtin.firstCells] at hcells ⊢
          have : ∀ (n i : Nat) (acc out : Array Value) (w2 : World), (loadCellsFrom a i n acc).run E.P w = .ok out w2 → (loadCellsFrom a i n acc).run E.P w.drew = .ok out w.drew := by
            intro n
            induction n with
            | zero => intro i acc out w2 h; simp [loadCellsFrom] at h ⊢; exact h.1
            | succ n ih =>
              intro i acc out w2 h
              simp only [loadCellsFrom, Sem.run_bind, run_load] at h ⊢
              have hcd : w.drew.cell? (a.add i) = w.cell? (a.add i) := rfl
              rw [hcd]
              cases hc : w.cell? (a.add i) with
              | some v =>
                rw [hc] at h
                simp only [Result.andThen_ok] at h ⊢
                exact ih _ _ _ _ h
              | none =>
                rw [hc] at h
                have hfd : w.drew.farLoad E.P (a.add i) (Mode.plain == Mode.atomic) = w.farLoad E.P (a.add i) (Mode.plain == Mode.atomic) := rfl
                rw [hfd]
                cases hfl : w.farLoad E.P (a.add i) (Mode.plain == Mode.atomic) with
                | ok y =>
                  rw [hfl] at h
                  simp only [Result.andThen_ok] at h ⊢
                  exact ih _ _ _ _ h
                | error er =>
                  rw [hfl] at h
                  simp at h
          exact this _ _ _ _ _ hcells
      | string b => simpa [Builtin.firstCells] using hcells
      | _ => simp [Builtin.firstCells] at hcells
    have e2 := hcells'.symm.trans e1
    injection e2 with e2 _
    exact List.toArray_inj e2
  refine ⟨g, ⟨?_, lenB, hcells, by rw [← hgg]; exact hcells', by simp, fun u hu => ?_⟩, hflat⟩
  · rcases hk with ⟨e, he⟩ | he
    · exact .inl ⟨e, by rw [hd, he]⟩
    · exact .inr (by rw [hd, he])
  · obtain ⟨k, hk, rfl⟩ := List.mem_map.1 hu
    exact one_of w g hflat k (by simpa using hk)

/-- The way that grows. -/
theorem append_grow (hR : Rel E μ s w) {T X ty e : TypeId} {tE : TI} (hTd : E.P.underlying T = some (.slice e)) (hE : E.ti e = some tE) (hz : tE.zero.length = tE.size) (h63 : tE.bytes ≠ 0)
    {vx : Value} {ys : List (List AV)} {g : Nat → Value} (hsrc : Src E.P tE.size X vx ys.length ((List.range (ys.length * tE.size)).map g) w) (hall1 : ∀ y ∈ ys, y.length = tE.size) (hflat : Flat μ s w tE.size ys g)
    (base : Option Addr) (sLen sCap : Nat) (es : List (List AV)) (wr : Bool) (g0 : Nat → Value) (hl : es.length = sLen) (hes : ∀ y ∈ es, y.length = tE.size) (hg0 : Flat μ s w tE.size es g0)
    (hold : (Builtin.firstCells tE.size sLen (.slice base sLen sCap)).run E.P w.drew = .ok ((List.range (sLen * tE.size)).map g0).toArray w.drew) (hgr : sCap < sLen + ys.length) (hby : (sLen + ys.length) * tE.bytes ≤ 2 ^ 47) :
    ∃ v w' μ', (Builtin.append_ #[T, X] ty #[.slice base sLen sCap, vx]).run E.P w = .ok v w' ∧ VR μ' (s.push (.row tE.size (wr, e) (es ++ ys))) w' (.ls s.nx 0 (sLen + ys.length)) v ∧
      Rel E μ' (s.push (.row tE.size (wr, e) (es ++ ys))) w' ∧ Fr n0 W μ s w μ' (s.push (.row tE.size (wr, e) (es ++ ys))) w' := by
  obtain ⟨⟨i, hi, his, hib, z, hzz, hzl⟩, _, _⟩ := ti_parts hE
  have hzs : z.cells.size = tE.size := by rw [← hz, ← hzl]; simp
  have h63' : ((sLen + ys.length : Nat) : Int) ≤ 9223372036854775807 := by
    have : (sLen + ys.length) * 1 ≤ (sLen + ys.length) * tE.bytes := Nat.mul_le_mul_left _ (by omega)
    omega
  have hfit : Builtin.nextslicecap (sLen + ys.length) sCap * i.bytes ≤ 281474976710656 := by
    rw [hib]
    exact growslice_fits hgr (by simpa using hby)
  have hrun := run_append_grow_src (P := E.P) w T X ty e i z hTd hi hzz base sLen sCap ((List.range (sLen * tE.size)).map g0) (by rw [his]; exact hold) vx ys.length _ (by rw [his]; exact hsrc) hgr h63' hfit
  have hcap : sLen + ys.length ≤ grownCap w (sLen + ys.length) sCap e := le_appendCap _ _ _ _
  have hRd := hR.drew (w.drawn + 1)
  have Fd : Fr n0 W μ s w μ s w.drew := Fr.drew hR (w.drawn + 1)
  obtain ⟨w', μ', hn, hv, hrel, hfr⟩ := grow_sound (w := w.drew) hRd (n0 := n0) (W := W) e tE.size wr es ys g0 g (sLen + ys.length) (grownCap w (sLen + ys.length) sCap e)
    (Builtin.zeroCells z.cells (grownCap w (sLen + ys.length) sCap e - (sLen + ys.length))) hes hall1 (fun i j x hx => (hg0 i j x hx).mono Fd) (fun i j x hx => (hflat i j x hx).mono Fd) (by rw [hl]) hcap (by rw [zeroCells_size, hzs])
  simp only [newRow, Sem.run_bind, run_newObj, Result.andThen_ok, Sem.run_pure, Result.ok.injEq, true_and] at hn
  have hwe : w' = w.drew.alloc (.cells (((List.range (sLen * tE.size)).map g0 ++ (List.range (ys.length * tE.size)).map g).toArray ++ Builtin.zeroCells z.cells (grownCap w (sLen + ys.length) sCap e - (sLen + ys.length))) e) := by
    rw [← hn, hl]
    simp [World.alloc]
  exact ⟨_, w', μ', by rw [hrun, hwe]; rfl, hv, hrel, Fd.trans hfr⟩

theorem append_nothing {T X ty e : TypeId} {tE : TI} (hTd : E.P.underlying T = some (.slice e)) (hE : E.ti e = some tE) {vx : Value} {g : Nat → Value}
    (hsrc : Src E.P tE.size X vx 0 ((List.range (0 * tE.size)).map g) w) (a : Option Addr) : (Builtin.append_ #[T, X] ty #[.slice a 0 0, vx]).run E.P w = .ok (.slice a 0 0) w := by
  obtain ⟨⟨i, hi, his, hib, z, hzz, hzl⟩, _, _⟩ := ti_parts hE
  have hsrc' : Src E.P i.size X vx 0 ((List.range (0 * tE.size)).map g) w := by rw [his]; exact hsrc
  cases a <;> rcases hsrc'.kind with ⟨e', hk⟩ | hk <;>
    simp [Builtin.append_, run_underlying hTd, run_underlying hk, sizeOf, typeInfo, hi, hsrc'.len, hsrc'.cells, storeCells]

theorem append_sound (hR : Rel E μ s w) {T X ty : TypeId} {tS tE tX : TI} {e : TypeId} (hT : E.ti T = some tS) (hd : tS.desc = .slice e) (hE : E.ti e = some tE) (hX : E.ti X = some tX)
    (hk : (∃ e, tX.desc = .slice e) ∨ tX.desc = .string) (hz : tE.zero.length = tE.size)
    {b x r : AV} {vb vx : Value} {ys : List (List AV)} (hard : ard s x = some ys) (hstr : (∃ b, x = .str b) → tE.size = 1) (h63 : tE.bytes ≠ 0) (h : aappend s b ys e tE.size tE.bytes = some (r, s')) (hm : b.may n0 W) (hb : VR μ s w b vb) (hx : VR μ s w x vx) :
    Yld E n0 W μ s w ((Builtin.append_ #[T, X] ty #[vb, vx]).run E.P w) r s' := by
  unfold aappend at h
  split at h
  · rename_i hall0
    have hall1 : ∀ y ∈ ys, y.length = tE.size := fun y hy => by
      have := List.all_eq_true.1 hall0 y hy
      simp only [Bool.and_eq_true, beq_iff_eq] at this
      exact this.1
    have hone : ∀ i j z, get2 ys i j = some z → z.one = true := fun i j z hz => by
      unfold get2 at hz
      cases hg : ys[i]? with
      | none => simp [hg] at hz
      | some y =>
        simp [hg] at hz
        have := List.all_eq_true.1 hall0 y (List.mem_of_getElem? hg)
        simp only [Bool.and_eq_true, beq_iff_eq] at this
        exact List.all_eq_true.1 this.2 z (List.mem_of_getElem? hz)
    obtain ⟨g, hsrc, hflat⟩ := src_of hR hX hk hard hall1 hone hstr hx
    obtain ⟨⟨i, hi, his, hib, z, hzz, hzl⟩, _, _⟩ := ti_parts hE
    obtain ⟨_, hTd, _⟩ := ti_parts hT
    rw [hd] at hTd
    split at h
    · -- nil
      split at h
      · rename_i hbytes
        simp only [Option.some.injEq, Prod.mk.injEq] at h
        obtain ⟨rfl, rfl⟩ := h
        cases hb
        by_cases hy0 : ys.length = 0
        · obtain rfl := List.eq_nil_of_length_eq_zero hy0
          refine ⟨.slice none 0 0, w, μ, ?_, ?_, hR.ghost _, Fr.ghost hR _⟩
          · exact append_nothing hTd hE hsrc none
          · exact .ls _ _ _ _ rfl (by simp) fun _ _ _ _ => .inl ⟨rfl, _, rfl⟩
        · obtain ⟨v, w', μ', h1, h2, h3, h4⟩ := append_grow (n0 := n0) (W := W) (ty := ty) hR hTd hE hz h63 hsrc hall1 hflat none 0 0 [] true (fun _ => undef) rfl (fun _ h => by cases h) (fun i j x hx => by simp [get2] at hx) (by simp [Builtin.firstCells]) (by omega) (by simpa using hbytes)
          simp only [Nat.zero_add, List.nil_append] at h2 h3 h4
          exact ⟨v, w', μ', h1, h2, h3, h4⟩
      · cases h
    · rename_i id off len
      split at h
      · rename_i sz' wr es hs
        split at h
        · rename_i hcond
          obtain ⟨⟨hwe, rfl⟩, hhw, hbytes⟩ := hcond
          obtain ⟨wb, we⟩ := wr
          obtain rfl : we = e := hwe
          simp only [Option.some.injEq, Prod.mk.injEq] at h
          obtain ⟨rfl, rfl⟩ := h
          have hidm : May n0 W id := hm
          have hRx := hR.drop id
          have Fx : Fr n0 W μ s w (μ.del id) (s.drop id) w := Fr.drop hR hidm
          have hflatx : Flat (μ.del id) (s.drop id) w tE.size ys g := fun i j x hx => (hflat i j x hx).mono Fx
          cases hb with
          | ls _ _ _ _ _ hn hp =>
          rcases hp _ _ _ hs with ⟨rfl, a0, rfl⟩ | ⟨p, cap, hq, rfl, hlc, hcr⟩
          · -- nil
            have hd0 : es.drop off = [] := List.drop_eq_nil_of_le (by omega)
            rw [hd0, List.nil_append, Nat.zero_add]
            by_cases hy0 : ys.length = 0
            · obtain rfl := List.eq_nil_of_length_eq_zero hy0
              refine ⟨.slice a0 0 0, w, μ.del id, append_nothing hTd hE hsrc a0, ?_, hRx.ghost _, Fx.trans (Fr.ghost hRx _)⟩
              exact .ls _ _ _ _ rfl (by simp) fun _ _ _ _ => .inl ⟨rfl, _, rfl⟩
            · obtain ⟨v, w', μ', h1, h2, h3, h4⟩ := append_grow (n0 := n0) (W := W) (ty := ty) hRx hTd hE hz h63 hsrc hall1 hflatx a0 0 0 [] wb (fun _ => undef) rfl (fun _ h => by cases h) (fun i j x hx => by simp [get2] at hx) (by cases a0 <;> simp [Builtin.firstCells, loadCells, loadCellsFrom]) (by omega) (by simpa using hbytes)
              simp only [Nat.zero_add, List.nil_append] at h2 h3 h4
              exact ⟨v, w', μ', h1, h2, h3, Fx.trans h4⟩
          · obtain ⟨_, o, ho, hr⟩ := hR.obj id p hq
            obtain rfl : o = .row tE.size (wb, we) es := Option.some.inj (ho.symm.trans hs)
            obtain ⟨hsp, us, t, lo, hi0, hh, hfr, hfr2, hroom, hroom2, hall2, hx0⟩ := hr
            have hall3 : ∀ y ∈ es.drop off, y.length = tE.size := fun y hy => hall2 y (List.mem_of_mem_drop hy)
            by_cases hfit : len + ys.length ≤ cap
            · -- there is room
              have hmulA : (off + cap) * tE.size = off * tE.size + cap * tE.size := Nat.add_mul _ _ _
              have hmulB : (len + ys.length) * tE.size ≤ cap * tE.size := Nat.mul_le_mul_right _ hfit
              have hmulC : (len + ys.length) * tE.size = len * tE.size + ys.length * tE.size := Nat.add_mul _ _ _
              have hmulD : es.length * tE.size = off * tE.size + len * tE.size := by rw [← hhw, Nat.add_mul]
              have hlen3 : (es.drop off).length = len := by simp; omega
              let q : Addr × Nat := (p.1.add (off * tE.size), p.2 - off * tE.size)
              have q1 : q.1.block = p.1.block := Addr.add_block _ _
              have q2 : q.1.spot = none := by show (p.1.add _).spot = none; unfold Addr.add; split <;> simp [hsp]
              have q3 : q.1.off = p.1.off + off * tE.size := by show (p.1.add _).off = _; unfold Addr.add; split <;> simp_all
              let news := (List.range (ys.length * tE.size)).map g
              have hnl : news.length = ys.length * tE.size := by simp [news]
              have b1 : (q.1.add (len * tE.size)).block = p.1.block := (Addr.add_block _ _).trans q1
              have b2 : (q.1.add (len * tE.size)).spot = none := by unfold Addr.add; split <;> simp [q2]
              have b3 : (q.1.add (len * tE.size)).off = p.1.off + es.length * tE.size := by
                rw [hmulD]; unfold Addr.add; split <;> simp_all; omega
              have hst := run_storeCells' E.P (q.1.add (len * tE.size)) b2 t lo hi0 news 0 w us (by rw [b1]; exact hh) hsrc.one (by rw [b3, hnl]; omega) (by rw [b3]; omega)
              rw [b1, b3, Nat.add_zero] at hst
              obtain ⟨⟨i, hi, his, hib, z, hzz, hzl⟩, _, _⟩ := ti_parts hE
              have hsrc' : Src E.P i.size X vx ys.length news w := by rw [his]; exact hsrc
              have hrun : (Builtin.append_ #[T, X] ty #[.slice (some q.1) len cap, vx]).run E.P w = .ok (.slice (some q.1) (len + ys.length) cap) (setBlock w p.1.block (.cells (asplice us (p.1.off + es.length * tE.size) news) t (lo, hi0))) := by
                rw [← his] at hst
                rcases hsrc'.kind with ⟨e', hk⟩ | hk <;>
                  (simp [Builtin.append_, run_underlying hTd, run_underlying hk, sizeOf, typeInfo, hi, hsrc'.len, hsrc'.cells, hfit, hst]; rw [his])
              have hsz : p.1.off + es.length * tE.size + news.length ≤ us.size := by rw [hnl]; omega
              refine ⟨_, _, _, hrun, ?_, Rel.renew hR hq q1 (.row tE.size (wb, we) (es.drop off ++ ys)) _ fun μ1 s1 w1 F hw => ?_, Fr.renew hR hq hidm q1 _ _⟩
              · refine .ls _ _ _ _ rfl (by simp) fun sz' wr' es' ho' => ?_
                have : (s.drop id).nx = s.nx := rfl
                rw [← this, St.get_push_same] at ho'
                simp only [Option.some.injEq, AObj.row.injEq] at ho'
                obtain ⟨rfl, rfl, rfl⟩ := ho'
                refine .inr ⟨q, cap, by simp [Mu.add], by simp [Addr.add_zero], hfit, ?_⟩
                show (0 + cap) * tE.size ≤ p.2 - off * tE.size
                rw [Nat.zero_add]
                omega
              · refine ⟨q2, _, t, lo, hi0, by rw [q1]; exact hw, hfr, ?_, ?_, ?_, fun y hy => (List.mem_append.1 hy).elim (hall3 y) (hall1 y), fun a b x hx => ?_⟩
                · rw [q3]
                  simp only [List.length_append, hlen3, hmulC]
                  omega
                · rw [q3, asplice_size _ _ _ hsz]
                  show p.1.off + off * tE.size + (p.2 - off * tE.size) ≤ us.size
                  omega
                · show _ ≤ p.2 - off * tE.size
                  simp only [List.length_append, hlen3, hmulC]
                  omega
                · rw [q3, asplice_get _ _ _ hsz, hnl]
                  have hallx : ∀ y ∈ es.drop off ++ ys, y.length = tE.size := fun y hy => (List.mem_append.1 hy).elim (hall3 y) (hall1 y)
                  obtain ⟨ha, hb⟩ := get2_lt hallx hx
                  rw [get2_append, hlen3] at hx
                  by_cases ha2 : a < len
                  · rw [if_pos ha2, get2_drop] at hx
                    have h1 := idx_lt ha2 hb
                    rw [if_pos (by omega)]
                    obtain ⟨u, hu, hvu⟩ := hx0 _ _ _ hx
                    refine ⟨u, ?_, hvu.mono F⟩
                    rw [show p.1.off + off * tE.size + (a * tE.size + b) = p.1.off + ((off + a) * tE.size + b) by rw [Nat.add_mul]; omega]
                    exact hu
                  · rw [if_neg ha2] at hx
                    have ha3 : a - len < ys.length := by simp at ha; omega
                    have h1 := idx_lt ha3 hb
                    have e1 : a * tE.size = len * tE.size + (a - len) * tE.size := by rw [← Nat.add_mul, Nat.add_sub_cancel' (by omega)]
                    rw [if_neg (by omega), if_pos (by omega)]
                    refine ⟨g ((a - len) * tE.size + b), ?_, (hflat _ _ _ hx).mono F⟩
                    rw [show p.1.off + off * tE.size + (a * tE.size + b) - (p.1.off + es.length * tE.size) = (a - len) * tE.size + b by omega]
                    simp [news, h1]
            · have hlen3 : (es.drop off).length = len := by simp; omega
              have hold : (Builtin.firstCells tE.size len (.slice (some (p.1.add (off * tE.size))) len cap)).run E.P w.drew = .ok ((List.range (len * tE.size)).map fun k => us.getD (p.1.off + (off * tE.size + k)) undef).toArray w.drew := by
                simp only [Builtin.firstCells]
                refine run_loadCells w.drew _ (len * tE.size) _ fun k hk => ?_
                have hb : (off + len) * tE.size ≤ es.length * tE.size := Nat.mul_le_mul_right _ (by omega)
                rw [Nat.add_mul] at hb
                have hlt : p.1.off + (off * tE.size + k) < us.size := by omega
                rw [Addr.add_add]
                show w.cell? _ = _
                rw [cell_of_heap hh hsp]
                simp [hlt]
              have hg0 : Flat (μ.del id) (s.drop id) w tE.size (es.drop off) (fun k => us.getD (p.1.off + (off * tE.size + k)) undef) := fun i j x hx => by
                rw [get2_drop] at hx
                obtain ⟨u, hu, hvu⟩ := hx0 _ _ _ hx
                have e1 : off * tE.size + (i * tE.size + j) = (off + i) * tE.size + j := by rw [Nat.add_mul]; omega
                show VR _ _ _ x (us.getD (p.1.off + (off * tE.size + (i * tE.size + j))) undef)
                rw [e1, ofArray_get us _ u hu]
                exact hvu.mono Fx
              obtain ⟨v, w', μ', h1, h2, h3, h4⟩ := append_grow (n0 := n0) (W := W) (ty := ty) hRx hTd hE hz h63 hsrc hall1 hflatx _ len cap (es.drop off) wb _ hlen3 hall3 hg0 hold (by omega) hbytes
              exact ⟨v, w', μ', h1, h2, h3, Fx.trans h4⟩
        · cases h
      · cases h
    · cases h
  · cases h
end
end Go.Am
namespace Go.Am

/-! ### numbers, bools, texts -/
/-- Two numbers of one kind. -/
def aint (op : BinOp) (k : IntKind) (a b : Int) : Option AV :=
  match op with
  | .add => some (.int k (k.wrap (a + b)))
  | .sub => some (.int k (k.wrap (a - b)))
  | .mul => some (.int k (k.wrap (a * b)))
  | .quo => if b = 0 then none else some (.int k (k.wrap (a.tdiv b)))
  | .rem => if b = 0 then none else some (.int k (a.tmod b))
  | .eql => some (.bool (a == b))
  | .neq => some (.bool (a != b))
  | .lss => some (.bool (decide (a < b)))
  | .leq => some (.bool (decide (a ≤ b)))
  | .gtr => some (.bool (decide (a > b)))
  | .geq => some (.bool (decide (a ≥ b)))
  | .and => some (.int k (k.wrap (BitVec.ofInt k.bits a &&& BitVec.ofInt k.bits b).toNat))
  | .or => some (.int k (k.wrap (BitVec.ofInt k.bits a ||| BitVec.ofInt k.bits b).toNat))
  | .xor => some (.int k (k.wrap (BitVec.ofInt k.bits a ^^^ BitVec.ofInt k.bits b).toNat))
  | .andNot => some (.int k (k.wrap (BitVec.ofInt k.bits a &&& ~~~ BitVec.ofInt k.bits b).toNat))
  | _ => none
def ashift (op : BinOp) (k : IntKind) (a b : Int) : Option AV :=
  if b < 0 then none else match op with
  | .shl => some (.int k (k.wrap (a * 2 ^ (min b.toNat k.bits))))
  | .shr => some (.int k (a.fdiv (2 ^ (min b.toNat k.bits))))
  | _ => none
/-- Two texts. -/
def astrop (op : BinOp) (a b : List UInt8) : Option AV :=
  match op with
  | .add => if a.length + b.length ≤ 9223372036854775807 then some (.str (a ++ b)) else none
  | .eql => some (.bool (a == b))
  | .neq => some (.bool (!(a == b)))
  | .lss => some (.bool (Op.bytesLess a b))
  | .leq => some (.bool (Op.bytesLess a b || a == b))
  | .gtr => some (.bool (!(Op.bytesLess a b || a == b)))
  | .geq => some (.bool (!(Op.bytesLess a b)))
  | _ => none

section
variable {E : Env} {n0 : Nat} {W : Nat → Prop} {μ μ' : Mu} {s s' : St} {w w' : World}

theorem aint_sound {op : BinOp} {k : IntKind} {a b : Int} {r : AV} (h : aint op k a b = some r) (t : TypeId) :
    ∃ v, (binOp op t (.int k a) (.int k b)).run E.P w = .ok v w ∧ VR μ s w r v := by
  cases op <;> simp only [aint, Option.some.injEq] at h <;> first
    | (subst h; refine ⟨_, ?_, by first | exact .int _ _ | exact .bool _⟩
       simp [binOp, Op.intArith, Op.intBits, Op.intCmp]; done)
    | (split at h
       · cases h
       · rename_i hb
         simp only [Option.some.injEq] at h
         subst h
         refine ⟨_, ?_, .int _ _⟩
         simp [binOp, Op.intDiv, hb])
    | cases h

theorem ashift_sound {op : BinOp} {k k' : IntKind} {a b : Int} {r : AV} (h : ashift op k a b = some r) (t : TypeId) :
    ∃ v, (binOp op t (.int k a) (.int k' b)).run E.P w = .ok v w ∧ VR μ s w r v := by
  unfold ashift at h
  split at h
  · cases h
  · rename_i hb
    cases op <;> first
      | (obtain rfl := Option.some.inj h
         refine ⟨_, ?_, .int _ _⟩
         cases k <;> cases k' <;> simp [binOp, Op.shift, hb])
      | cases h

theorem astrop_sound {op : BinOp} {a b : ByteArray} {r : AV} (h : astrop op a.data.toList b.data.toList = some r) (t : TypeId) :
    ∃ v, (binOp op t (.string a) (.string b)).run E.P w = .ok v w ∧ VR μ s w r v := by
  have e : ∀ op, (binOp op t (.string a) (.string b)) = Op.stringOp op a b := fun op => by cases op <;> rfl
  rw [e]
  have ha : a.toList = a.data.toList := ByteArray.toList_eq _
  have hb : b.toList = b.data.toList := ByteArray.toList_eq _
  cases op <;> simp only [astrop, Option.some.injEq] at h <;> first
    | (subst h; refine ⟨_, ?_, .bool _⟩
       simp [Op.stringOp, ha, hb]; done)
    | (split at h
       · rename_i hl
         simp only [Option.some.injEq] at h
         subst h
         have h1 : a.data.toList.length = a.size := by simp
         have h2 : b.data.toList.length = b.size := by simp
         rw [h1, h2] at hl
         refine ⟨.string (a ++ b), ?_, ?_⟩
         · have : ¬ (IntKind.max .i64 < ((a.size + b.size : Nat) : Int)) := by
             show ¬ ((9223372036854775807 : Int) < _)
             omega
           simp only [Op.stringOp, gt_iff_lt, this, if_false, Sem.run_pure]
         · have : (a.data.toList ++ b.data.toList) = (a ++ b).data.toList := by simp
           rw [this]
           exact .str _
       · cases h)
    | cases h
end
end Go.Am
