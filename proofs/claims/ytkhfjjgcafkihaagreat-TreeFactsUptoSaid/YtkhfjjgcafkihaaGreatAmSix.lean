/- Part of the proof: abstract values over the given model of Go (AmZK, AmZL, AmZM, AmZN, AmZO, AmZP, AmRA, AmZQ). Conditions: none of its own; see the statement in the seat's Rows text. -/
import Derived.Test.YtkhfjjgcafkihaaGreatAmFive
import Derived.Test.YtkhfjjgcafkihaaGreatAmFour
import Derived.Lib.AppendZerosOnto
import Derived.Lib.Overlaps
import Derived.RangeFuncNested
import Derived.RangeFuncBound
import Derived.RangeFuncCalls
import Derived.RangeFuncLeaves
set_option linter.unusedSimpArgs false
set_option linter.unusedVariables false
set_option linter.unusedSectionVars false
namespace Go.Am
/-! ### a row renamed -/
def Mu.mv (μ : Mu) (id n : Nat) : Mu := fun j => if j = id then none else if j = n then μ id else μ j
def St.mv (s : St) (id : Nat) (o : AObj) : St := (s.drop id).push o
section
variable {E : Env} {μ : Mu} {s : St} {w : World} {id : Nat}
theorem Mu.mv_some {n j : Nat} {p : Addr × Nat} (hn : ∀ j p, μ j = some p → j < n) (h : (μ.mv id n) j = some p) : (j = n ∧ μ id = some p) ∨ (j ≠ id ∧ j ≠ n ∧ μ j = some p) := by
  unfold Mu.mv at h
  split at h
  · cases h
  · split at h
    · exact .inl ⟨‹_›, h⟩
    · exact .inr ⟨‹_›, ‹_›, h⟩
theorem Mu.mv_of {n j : Nat} (h1 : j ≠ id) (h2 : j ≠ n) : (μ.mv id n) j = μ j := by unfold Mu.mv; rw [if_neg h1, if_neg h2]
theorem Mu.mv_new {n : Nat} (h : n ≠ id) : (μ.mv id n) n = μ id := by unfold Mu.mv; rw [if_neg h, if_pos rfl]
theorem St.mv_lo {o o' : AObj} {j : Nat} (hj : j < s.nx) (h : (s.mv id o').get j = some o) : j ≠ id ∧ s.get j = some o := by
  unfold St.mv at h
  rw [St.get_push, if_neg (by simp; omega), St.get_drop] at h
  split at h
  · cases h
  · exact ⟨‹_›, h⟩
theorem VR.mv {o' : AObj} (hR : ∀ j p, μ j = some p → j < s.nx) (hid : id < s.nx) {x : AV} {v : Value} (h : VR μ s w x v) : VR (μ.mv id s.nx) (s.mv id o') w x v := by
  have hfree : ∀ b, μ.free b → (μ.mv id s.nx).free b := fun b hm j p hp => by
    rcases Mu.mv_some hR hp with ⟨_, h⟩ | ⟨_, _, h⟩
    · exact hm id p h
    · exact hm j p h
  have hnx : ∀ {j : Nat}, j < s.nx → j < (s.mv id o').nx := fun {j} h => by show j < s.nx + 1; omega
  have hmu : ∀ {j : Nat}, j < s.nx → j ≠ id → (μ.mv id s.nx) j = μ j := fun h h' => Mu.mv_of h' (by omega)
  induction h with
  | junk v => exact .junk v
  | bool b => exact .bool b
  | int k n => exact .int k n
  | str b => exact .str b
  | agg cs vs hl _ ih => exact .agg cs vs hl ih
  | tup cs vs hl _ ih => exact .tup cs vs hl ih
  | nsl => exact .nsl
  | slnil a => exact .slnil a
  | sl xs a cap sz vs hb hm hsp hcap hsz hc _ ih => exact .sl xs a cap sz vs hb (hfree _ hm) hsp hcap hsz hc ih
  | np => exact .np
  | rp cs a vs hb hm hc _ ih => exact .rp cs a vs hb (hfree _ hm) hc ih
  | ptr j off v h1 hn h => exact .ptr j off v h1 (hnx hn) fun o ho => by obtain ⟨e, ho⟩ := St.mv_lo hn ho; rw [hmu hn e]; exact h o ho
  | ep j a b v h1 hn h => exact .ep j a b v h1 (hnx hn) fun sz wr es ho => by obtain ⟨e, ho⟩ := St.mv_lo hn ho; rw [hmu hn e]; exact h sz wr es ho
  | ls j a b v h1 hn h => exact .ls j a b v h1 (hnx hn) fun sz wr es ho => by obtain ⟨e, ho⟩ := St.mv_lo hn ho; rw [hmu hn e]; exact h sz wr es ho
  | map j v h1 hn h => exact .map j v h1 (hnx hn) fun o ho => by obtain ⟨e, ho⟩ := St.mv_lo hn ho; rw [hmu hn e]; exact h o ho
  | nmap => exact .nmap
  | fn f a b va vb hla hlb _ _ iha ihb => exact .fn f a b va vb hla hlb iha ihb
  | nfn => exact .nfn
  | ifc t x v _ ih => exact .ifc t x v ih
  | nif => exact .nif
  | it j v h1 hn h => exact .it j v h1 (hnx hn) fun o ho => by obtain ⟨e, ho⟩ := St.mv_lo hn ho; rw [hmu hn e]; exact h o ho
theorem ORel.mv {o' : AObj} (hR : ∀ j p, μ j = some p → j < s.nx) (hid : id < s.nx) {p : Addr × Nat} {o : AObj} (h : ORel μ s w p o) : ORel (μ.mv id s.nx) (s.mv id o') w p o := by
  cases o with
  | var ty cs =>
    obtain ⟨h1, h2, vs, t, h3, ⟨h4, h5⟩, h6⟩ := h
    exact ⟨h1, h2, vs, t, h3, ⟨h4, fun i x v hx hv => (h5 i x v hx hv).mv hR hid⟩, h6⟩
  | row sz wr es =>
    obtain ⟨h1, vs, t, lo, hi, h2, h3, h4, h5, h6, h7, h8⟩ := h
    refine ⟨h1, vs, t, lo, hi, h2, h3, h4, h5, h6, h7, fun i j x hx => ?_⟩
    obtain ⟨v, h9, h10⟩ := h8 i j x hx
    exact ⟨v, h9, h10.mv hR hid⟩
  | map es =>
    obtain ⟨h1, h2, ents, clk, h3, h4, h5⟩ := h
    exact ⟨h1, h2, ents, clk, h3, h4, fun i x e hx he => ⟨(h5 i x e hx he).1.mv hR hid, (h5 i x e hx he).2.mv hR hid⟩⟩
  | siter str pos => exact h
theorem Rel.mv {o : AObj} (hid : id < s.nx) (hs : s.get id = some o) (R : Rel E μ s w) : Rel E (μ.mv id s.nx) (s.mv id o) w where
  obj j p hp := by
    rcases Mu.mv_some R.lt hp with ⟨rfl, h⟩ | ⟨h1, h2, h⟩
    · obtain ⟨_, o1, h3, h4⟩ := R.obj id p h
      obtain rfl : o = o1 := Option.some.inj (hs.symm.trans h3)
      exact ⟨Nat.lt_succ_self _, o, by unfold St.mv; exact St.get_push_same _ _, h4.mv R.lt hid⟩
    · obtain ⟨h5, o1, h3, h4⟩ := R.obj j p h
      refine ⟨Nat.lt_succ_of_lt h5, o1, ?_, h4.mv R.lt hid⟩
      unfold St.mv
      rw [St.get_push, if_neg (by simpa using h2), St.get_drop, if_neg h1]
      exact h3
  inj i j p q hi hj hb := by
    rcases Mu.mv_some R.lt hi with ⟨rfl, h⟩ | ⟨h1, h2, h⟩ <;> rcases Mu.mv_some R.lt hj with ⟨rfl, k⟩ | ⟨k1, k2, k⟩
    · rfl
    · exact absurd (R.inj id j p q h k hb).symm k1
    · exact absurd (R.inj i id p q h k hb) h1
    · exact R.inj i j p q h k hb
  lo i p hp := by
    rcases Mu.mv_some R.lt hp with ⟨rfl, h⟩ | ⟨h1, h2, h⟩
    · exact R.lo id p h
    · exact R.lo i p h
  gl := R.gl
  size := R.size
  tape := R.tape
  os := R.os
theorem Fr.mv {n0 : Nat} {W : Nat → Prop} {o : AObj} (hW : May n0 W id) (hid : id < s.nx) (R : Rel E μ s w) : Fr n0 W μ s w (μ.mv id s.nx) (s.mv id o) w where
  os := rfl
  tape := rfl
  output := rfl
  size := Nat.le_refl _
  nx := Nat.le_succ _
  blocks _ _ _ := rfl
  keep j p hj hp ho := by
    obtain ⟨o1, ho⟩ := ho
    obtain ⟨e, _⟩ := St.mv_lo hj ho
    rw [Mu.mv_of e (by omega)]; exact hp
  old j p hj hp := by
    rcases Mu.mv_some R.lt hp with ⟨rfl, h⟩ | ⟨h1, h2, h⟩
    · omega
    · exact h
  new j p hj hp := by
    rcases Mu.mv_some R.lt hp with ⟨rfl, h⟩ | ⟨h1, h2, h⟩
    · exact .inr ⟨id, p, hW, h, rfl⟩
    · exact absurd (R.lt j p h) (by omega)
  shape j o1 hj ho := ⟨o1, (St.mv_lo hj ho).2, rfl⟩
  same j hj hm := by
    unfold St.mv
    rw [St.get_push, if_neg (by simp; omega), St.get_drop, if_neg]
    rintro rfl
    exact hm hW
end

/-- The end of a body that takes a row over, and whose result goes on as data. -/
def FinZ' (E : Env) (rs : Array ResultVar) (s0 : St) (id : Nat) (r : AV) : Exit → Slots → St → Prop := fun e T s1 =>
  (e = .normal ∨ e = .ret) ∧ s1.get id = none ∧ ∃ r1, ares E T s1 rs = some r1 ∧ Frz s1 s0.nx r1 r
/-- A function that takes a whole row of its caller's over; what it gives goes on as data. -/
theorem FT.take {E : Env} {f : FuncId} {fn : Func} {c : Code} {args : List AV} {r : AV} {nt : Nat} {rs : Array ResultVar} {s : St} {id sz : Nat} {k : RK} {es : List (List AV)} (hf : E.P.funcs[f]? = some fn)
    (hname : (fn.name == "runtime.NumGoroutine") = false) (hb : fn.body = some c) (hnt : fn.ntmps = nt) (hrs : fn.results = rs) (hl : args.length + 1 ≤ nt)
    (hid : id < s.nx) (hs : s.get id = some (.row sz k es)) (hr : Below s.nx r)
    (h : ∀ μ w, CT ⟨E, s.nx, (fun j => j ∈ [id]), nt, μ, s, w⟩ c (FinZ' E rs s id r) (T0 0 (.ls s.nx 0 es.length :: args)) (s.mv id (.row sz k es))) : FT E (fun j => j ∈ [id]) f (.ls id 0 es.length :: args) s r (s.drop id) := by
  subst hnt
  subst hrs
  refine ⟨⟨fn, hf, hname, by rw [hb]; rfl⟩, fun μ w vs hR hvs => ?_⟩
  have hW : May s.nx (fun j => j ∈ [id]) id := .inl (by simp)
  have hA0 := At.start (nt := fn.ntmps) (W := fun j => j ∈ [id]) hR hvs (by simpa using hl)
  have hA1 : At ⟨E, s.nx, (fun j => j ∈ [id]), fn.ntmps, μ, s, w⟩ (T0 0 (.ls s.nx 0 es.length :: args)) (s.mv id (.row sz k es)) { tmps := vs ++ Array.replicate (fn.ntmps - vs.size) undef, defers := [] } w (μ.mv id s.nx) := by
    refine ⟨hR.mv hid hs, ⟨hA0.tr.1, fun i => ?_⟩, rfl, Fr.mv hW hid hR⟩
    have h0 := hA0.tr.2 i
    cases i with
    | zero =>
      rw [T0_get] at h0 ⊢
      simp only [Nat.zero_le, if_true, Nat.sub_zero, List.getElem?_cons_zero, Option.getD_some] at h0 ⊢
      generalize Array.getD _ 0 undef = v at h0 ⊢
      cases h0 with
      | ls _ _ _ _ h1 hn hp =>
      refine .ls _ _ _ _ h1 (Nat.lt_succ_self _) fun sz' wr' es' ho => ?_
      rcases hp _ _ _ hs with hq | ⟨p, cap, hq1, hq2⟩
      · exact .inl hq
      · have : sz' = sz := by
          unfold St.mv at ho
          rw [show s.nx = (s.drop id).nx from rfl, St.get_push_same] at ho
          cases ho; rfl
        subst this
        exact .inr ⟨p, cap, by rw [Mu.mv_new (by omega)]; exact hq1, hq2⟩
    | succ i =>
      rw [T0_get] at h0 ⊢
      simp only [Nat.zero_le, if_true, Nat.sub_zero, List.getElem?_cons_succ] at h0 ⊢
      exact h0.mv hR.lt hid
  refine calls_of_wp hf hb (wp_mono (h μ w _ w _ hA1) fun e a w' hp => ?_)
  obtain ⟨μ1, T1, s1, hA, he, hnone, r1, hr1, hZ⟩ := hp
  obtain ⟨v, hv1, hv2⟩ := ares_sound hA hr1
  have hE : Ends (fun j => j ∈ [id]) s s1 (s.drop id) := by
    refine ⟨Nat.le_refl _, hA.fr.nx, fun j hj => ?_, fun j hj hm o ho => ?_⟩
    · rw [St.get_drop]
      split
      · rename_i e; subst e; exact hnone.symm
      · rename_i e
        refine (hA.fr.same j hj fun hm => ?_).symm
        rcases hm with hm | hm
        · simp at hm; exact e hm
        · exact absurd hj (Nat.not_lt.2 hm)
    · exfalso
      rcases hm with hm | hm
      · simp at hm; subst hm
        rw [St.get_drop, if_pos rfl] at ho
        cases ho
      · exact absurd hj (Nat.not_lt.2 hm)
  have key : a.defers = [] ∧ ∃ v, (results fn a.tmps).run E.P w' = .ok v w' ∧ ∃ u μ', Ending.returned v = .returned u ∧ VR μ' (s.drop id) w' r u ∧ Rel E μ' (s.drop id) w' ∧ Fr s.nx (fun j => j ∈ [id]) μ s w μ' (s.drop id) w' :=
    ⟨hA.de, v, hv1, v, μ1.cut s.nx, rfl, VR.frz (s0 := s.drop id) hA.rel hE.get hZ hv2, hE.rel hR hA.rel hA.fr, hE.fr hA.fr⟩
  rcases he with rfl | rfl
  · exact key
  · exact key
end Go.Am
namespace Go.Am
/-! ### slots whose very values are kept in mind (a slice's capacity) -/
def Trk (L : List (Nat × Value)) (a : Act) : Prop := ∀ p ∈ L, a.tmps.getD p.1 undef = p.2
def CTz (C : Cx) (L : List (Nat × Value)) (c : Code) (Q : Exit → Slots → St → Prop) (T : Slots) (s : St) : Prop :=
  ∀ μ w a, At C T s a w μ → Trk L a → c.wp C.E.P (Post C Q) a w
def PostL (C : Cx) (L : List (Nat × Value)) (N : Slots → St → Prop) (Q : Exit → Slots → St → Prop) : Exit → Act → World → Prop
  | .normal, a, w => ∃ μ T s, At C T s a w μ ∧ Trk L a ∧ N T s
  | e, a, w => ∃ μ T s, At C T s a w μ ∧ Q e T s
def CTL (C : Cx) (L L1 : List (Nat × Value)) (c : Code) (N : Slots → St → Prop) (Q : Exit → Slots → St → Prop) (T : Slots) (s : St) : Prop :=
  ∀ μ w a, At C T s a w μ → Trk L a → c.wp C.E.P (PostL C L1 N Q) a w
def OTL (C : Cx) (ops : Array Oper) (L L1 : List (Nat × Value)) (N : Slots → St → Prop) (Q : Exit → Slots → St → Prop) (l : List Nat) (T : Slots) (s : St) : Prop :=
  ∀ μ w a, At C T s a w μ → Trk L a → wpOps C.E.P ops (PostL C L1 N Q) l a w
section
variable {C : Cx} {F : Fns} {ops : Array Oper} {Q : Exit → Slots → St → Prop} {N : Slots → St → Prop} {T T' : Slots} {s s' : St} {L L1 L' : List (Nat × Value)}
theorem CT.wpSeq {x y : Code} (hF : FOk C.E F) (hm : C.E.P.follows .mixedOrders = true) (hC : C.n0 ≤ C.s.nx) (hs : statOk C.nt x = true) (h : WP C F x (tQ (fun T s => CT C y Q T s) Q) T s) : CT C (x.seq y) Q T s :=
  CT.seq (WP_sound hF hm hC x _ T s hs (by unfold tQ at h; exact h))
theorem CTz.of {c : Code} (h : CT C c Q T s) : CTz C L c Q T s := fun μ w a hA _ => h μ w a hA
theorem CTz.seq {x y : Code} (h : CTL C L L1 x (fun T s => CTz C L1 y Q T s) Q T s) : CTz C L (x.seq y) Q T s := fun μ w a hA hT =>
  wp_seq (wp_mono (h μ w a hA hT) fun e a w hp => by
    cases e with
    | normal =>
      obtain ⟨μ, T, s, hA, hT, hq⟩ := hp
      exact hq μ w a hA hT
    | _ => exact hp)
theorem CTL.seq {x y : Code} (h : CTL C L L1 x (fun T s => CTL C L1 L' y N Q T s) Q T s) : CTL C L L' (x.seq y) N Q T s := fun μ w a hA hT =>
  wp_seq (wp_mono (h μ w a hA hT) fun e a w hp => by
    cases e with
    | normal =>
      obtain ⟨μ, T, s, hA, hT, hq⟩ := hp
      exact hq μ w a hA hT
    | _ => exact hp)
theorem CTL.region {id : Nat} {ops : Array Oper} (h : OTL C ops L L1 N Q (List.range ops.size) T s) : CTL C L L1 (.region id ops false) N Q T s :=
  fun μ w a hA hT => wp_region (h μ w a hA hT)
theorem CTL.cond {c : Operand} {x y : Code} {t : Bool} (hc : Am.ev C.E T c = .bool t) (h : CTL C L L1 (if t then x else y) N Q T s) : CTL C L L1 (.cond c x y) N Q T s := fun μ w a hA hT => by
  have := hA.ev c
  rw [hc] at this
  generalize hv : a.eval c = v at this
  cases this
  exact wp_cond hv (h μ w a hA hT)
theorem CTL.skip (h : N T s) : CTL C L L .skip N Q T s := fun μ w a hA hT => wp_skip ⟨μ, T, s, hA, hT, h⟩
theorem CTL.out {c : Code} (h : CTz C L c (thenQ (fun _ _ => False) Q) T s) : CTL C L L1 c N Q T s := fun μ w a hA hT =>
  wp_mono (h μ w a hA hT) fun e a w ⟨μ, T, s, hA, hq⟩ => by
    cases e with
    | normal => exact hq.elim
    | _ => exact ⟨μ, T, s, hA, hq⟩
theorem OTL.weak {l : List Nat} (hL : ∀ p ∈ L', p ∈ L) (h : OTL C ops L' L1 N Q l T s) : OTL C ops L L1 N Q l T s := fun μ w a hA hT => h μ w a hA fun p hp => hT p (hL p hp)
theorem CT.facts {c : Code} {P : Slots → Prop} (hP : P T) (h : ∀ T, P T → CT C c Q T s) : CT C c Q T s := h T hP
theorem CTz.facts {c : Code} {P : Slots → Prop} (hP : P T) (h : ∀ T, P T → CTz C L c Q T s) : CTz C L c Q T s := h T hP
theorem OTL.nil (hL : ∀ p ∈ L1, p ∈ L) (h : N T s) : OTL C ops L L1 N Q [] T s := fun μ w a hA hT => ⟨μ, T, s, hA, fun p hp => hT p (hL p hp), h⟩
theorem OTL.one {i : Nat} {rest : List Nat} {o : Oper} {r : AV} (ho : ops[i]? = some o) (hw : awanted ops T o = some true) (hd : o.dst.all (fun i => decide (i < C.nt)) = true)
    (h : ∀ μ w a, At C T s a w μ → Trk L a → ∃ v w' μ', (execOp a.eval o).run C.E.P w = .ok (.value v) w' ∧ VR μ' s' w' r v ∧ Rel C.E μ' s' w' ∧ Fr C.n0 C.W μ s w μ' s' w' ∧ Trk L' (a.put o.dst v))
    (k : OTL C ops L' L1 N Q rest (T.put o.dst r) s') : OTL C ops L L1 N Q (i :: rest) T s := fun μ w a hA hT => by
  rw [wpOps_cons]
  unfold wpOp
  simp only [ho, awanted_sound hA.tr hw, if_true]
  refine .inl ?_
  obtain ⟨v, w', μ', h1, h2, h3, h4, h5⟩ := h μ w a hA hT
  unfold Oper.wp
  rw [h1]
  exact k μ' w' _ (hA.put h2 h3 h4 hd) h5
theorem Act.put_other {a : Act} {d : Option Tmp} {v : Value} {i : Nat} (h : d ≠ some i) : (a.put d v).tmps.getD i undef = a.tmps.getD i undef := by
  cases d with
  | none => rfl
  | some d =>
    have : d ≠ i := fun e => h (by rw [e])
    simp only [Act.put]
    rw [Array.getD_eq_getD_getElem?, Array.getElem?_setIfInBounds_ne this, ← Array.getD_eq_getD_getElem?]
theorem Act.put_same {a : Act} {d : Tmp} {v : Value} (h : d < a.tmps.size) : (a.put (some d) v).tmps.getD d undef = v := by
  simp [Act.put, h]
theorem Trk.put {a : Act} {d : Option Tmp} {v : Value} (h : Trk L a) (hL : (L.all fun p => d != some p.1) = true) : Trk L (a.put d v) := fun p hp => by
  have := List.all_eq_true.1 hL p hp
  rw [Act.put_other (by simpa using this)]
  exact h p hp
theorem OTL.step {i : Nat} {rest : List Nat} {o : Oper} {r : AV} (ho : ops[i]? = some o) (hw : awanted ops T o = some true) (hd : o.dst.all (fun i => decide (i < C.nt)) = true)
    (hL : (L.all fun p => o.dst != some p.1) = true) (h : Step1 C o T s r s') (k : OTL C ops L L1 N Q rest (T.put o.dst r) s') : OTL C ops L L1 N Q (i :: rest) T s := fun μ w a hA hT => by
  rw [wpOps_cons]
  unfold wpOp
  simp only [ho, awanted_sound hA.tr hw, if_true]
  exact .inl (h μ w a hA _ _ fun v w' μ' h1 h2 h3 => k μ' w' _ (hA.put h1 h2 h3 hd) (hT.put hL))
theorem OTL.move {i x d : Nat} {v : Value} {rest : List Nat} {o : Oper} (ho : ops[i]? = some o) (hw : awanted ops T o = some true) (hop : o.op = .move (.tmp x)) (hdd : o.dst = some d) (hd : d < C.nt)
    (hx : (x, v) ∈ L) (hL : (L.all fun p => o.dst != some p.1) = true) (k : OTL C ops ((d, v) :: L) L1 N Q rest (T.put o.dst (T.get x)) s) : OTL C ops L L1 N Q (i :: rest) T s := by
  refine OTL.one ho hw (by rw [hdd]; simpa using hd) (fun μ w a hA hT => ⟨a.tmps.getD x undef, w, μ, ?_, hA.tr.2 x, hA.rel, hA.rel.refl, fun p hp => ?_⟩) k
  · simp [execOp, hop, Act.eval]
  · rcases List.mem_cons.1 hp with rfl | hp
    · rw [hdd, Act.put_same (by rw [hA.tr.1]; exact hd)]
      exact hT _ hx
    · exact (hT.put hL) p hp
theorem OTL.cap {i x : Nat} {q : Option Addr} {len cap : Nat} {t : TypeId} {y : TI} {e : TypeId} {rest : List Nat} {o : Oper} {c : Call} (ho : ops[i]? = some o) (hw : awanted ops T o = some true) (hop : o.op = .call c) (hc : c.callee = .builtin .cap) (hca : c.args = #[.tmp x]) (hct : c.argTypes = #[t])
    (hd : o.dst.all (fun i => decide (i < C.nt)) = true) (hy : C.E.ti t = some y) (he : y.desc = .slice e) (hx : (x, Value.slice q len cap) ∈ L) (hL : (L.all fun p => o.dst != some p.1) = true) (k : OTL C ops L L1 N Q rest (T.put o.dst (.int .i64 cap)) s) : OTL C ops L L1 N Q (i :: rest) T s := by
  have hu : C.E.P.underlying t = some (.slice e) := by
    obtain ⟨_, h1, _⟩ := ti_parts hy
    rw [h1, he]
  refine OTL.one ho hw hd (fun μ w a hA hT => ⟨.int .i64 cap, w, μ, ?_, .int _ _, hA.rel, hA.rel.refl, hT.put hL⟩) k
  have hq : a.tmps.getD x undef = .slice q len cap := hT _ hx
  have hq' : a.tmps[x]?.getD undef = .slice q len cap := by rw [← hq, Array.getD_eq_getD_getElem?]
  simp [execOp, hop, resolve, hc, hca, hct, invoke, builtin, Act.eval, hq', Builtin.cap_, run_underlying hu, goInt]
/-- A row's room, at once. -/
theorem CT.trk {c : Code} {x id off len sz : Nat} {k : RK} {es : List (List AV)} (hx : T.get x = .ls id off len) (hs : s.get id = some (.row sz k es)) (hl : len ≠ 0)
    (h : ∀ q cap, len ≤ cap → CTz C [(x, .slice (some q) len cap)] c Q T s) : CT C c Q T s := fun μ w a hA => by
  have hv := hA.tr.2 x
  rw [hx] at hv
  generalize he : a.tmps.getD x undef = v at hv
  cases hv with
  | ls _ _ _ _ _ hn hp =>
  rcases hp _ _ _ hs with ⟨h0, _⟩ | ⟨p, cap, hq, rfl, hlc, hcr⟩
  · exact absurd h0 hl
  · exact h _ cap hlc μ w a hA fun p hp => by
      rw [List.mem_singleton] at hp
      subst hp
      exact he
/-- A slice of it, from its start to a place within the room. -/
theorem OTL.slice {i x y d id off len h sz : Nat} {q : Addr} {cap : Nat} {t : TypeId} {k : RK} {es : List (List AV)} {tx ty : TI} {e : TypeId} {kk : IntKind} {rest : List Nat} {o : Oper} (ho : ops[i]? = some o) (hw : awanted ops T o = some true)
    (hop : o.op = .slice t (.tmp x) none (some (.tmp y)) none) (hdd : o.dst = some d) (hd : d < C.nt) (htx : C.E.ti t = some tx) (he : tx.desc = .slice e) (hte : C.E.ti e = some ty) (hx : (x, Value.slice (some q) len cap) ∈ L)
    (hX : T.get x = .ls id off len) (hY : T.get y = .int kk (h : Int)) (hs : s.get id = some (.row sz k es)) (hl : len ≠ 0) (hh : h ≤ cap) (hL : (L.all fun p => o.dst != some p.1) = true)
    (kont : OTL C ops ((d, Value.slice (some q) h cap) :: L) L1 N Q rest (T.put o.dst (.ls id off h)) s) : OTL C ops L L1 N Q (i :: rest) T s := by
  have hu : C.E.P.underlying t = some (.slice e) := by
    obtain ⟨_, h1, _⟩ := ti_parts htx
    rw [h1, he]
  refine OTL.one ho hw (by rw [hdd]; simpa using hd) (fun μ w a hA hT => ⟨.slice (some q) h cap, w, μ, ?_, ?_, hA.rel, hA.rel.refl, fun p hp => ?_⟩) kont
  · have hq : a.tmps.getD x undef = .slice (some q) len cap := hT _ hx
    have hy := hA.tr.2 y
    rw [hY] at hy
    generalize hyy : a.tmps.getD y undef = vy at hy
    cases hy
    have hbd : ∀ c, (Instr.sliceBound (.int kk (h : Int)) cap c).run C.E.P w = .ok h w := fun c => by
      have := run_bound (E := C.E) (w := w) (.int kk (h : Int)) kk h cap c rfl (by omega) (by omega)
      simpa using this
    have hsz := run_sizeOf' hte w
    have hrun : (Instr.sliceAt t (.slice (some q) len cap) none (some (.int kk (h : Int))) none).run C.E.P w = .ok (.slice (some q) h cap) w := by
      simp only [Instr.sliceAt, Sem.run_bind, run_underlying' htx, Result.andThen_ok, he, Instr.slice, Instr.sliceBounds, hbd, hsz, Sem.run_pure, Option.map_some]
      simp [hbd, Addr.add_zero, hsz]
    simp only [execOp, hop, Option.map, Act.eval, hq, hyy, Sem.run_bind, hrun, Result.andThen_ok, Sem.run_pure]
  · have hv := hA.tr.2 x
    rw [hX, hT _ hx] at hv
    cases hv with
    | ls _ _ _ _ h1 hn hp =>
    refine .ls _ _ _ _ rfl hn fun sz' k' es' hs' => ?_
    rcases hp _ _ _ hs' with ⟨h0, _⟩ | ⟨p, cap', hq, h2, h3, h4⟩
    · exact absurd h0 hl
    · simp only [Value.slice.injEq] at h2
      obtain ⟨h2, _, rfl⟩ := h2
      exact .inr ⟨p, cap, hq, by rw [h2], hh, h4⟩
  · rcases List.mem_cons.1 hp with rfl | hp
    · rw [hdd, Act.put_same (by rw [hA.tr.1]; exact hd)]
    · exact (hT.put hL) p hp
/-- The room may be told as elements of which nothing is known. -/
theorem get2_junk (n sz i j : Nat) (x : AV) (h : get2 (List.replicate n (List.replicate sz AV.junk)) i j = some x) : x = .junk := by
  unfold get2 at h
  cases hg : (List.replicate n (List.replicate sz AV.junk))[i]? with
  | none => simp [hg] at h
  | some y =>
    have := List.mem_of_getElem? hg
    obtain rfl := List.eq_of_mem_replicate this
    simp [hg] at h
    exact (List.eq_of_mem_replicate (List.mem_of_getElem? h))
theorem CTz.room {c : Code} {x id off len h sz ty : Nat} {q : Addr} {cap : Nat} {es : List (List AV)} (hx : (x, Value.slice (some q) len cap) ∈ L) (hX : T.get x = .ls id off len) (hs : s.get id = some (.row sz (true, ty) es)) (hl : len ≠ 0)
    (hle : off + len = es.length) (h0 : len ≤ h) (hh : h ≤ cap) (hm : May C.n0 C.W id) (k : CTz C L c Q T (s.put id (.row sz (true, ty) (es ++ List.replicate (h - len) (List.replicate sz .junk))))) : CTz C L c Q T s := fun μ w a hA hT => by
  refine k μ w a ?_ hT
  have hv := hA.tr.2 x
  rw [hX, hT _ hx] at hv
  cases hv with
  | ls _ _ _ _ h1 hn hp =>
  rcases hp _ _ _ hs with ⟨h0, _⟩ | ⟨p, cap', hq, h2, h3, h4⟩
  · exact absurd h0 hl
  simp only [Value.slice.injEq] at h2
  obtain ⟨h2, _, rfl⟩ := h2
  have F : ∀ {n0 : Nat} {W : Nat → Prop}, May n0 W id → Fr n0 W μ s w μ (s.put id (.row sz (true, ty) (es ++ List.replicate (h - len) (List.replicate sz .junk)))) w := fun {n0 W} hmm => by
    refine ⟨rfl, rfl, rfl, Nat.le_refl _, Nat.le_refl _, fun _ _ _ => rfl, fun _ _ _ h _ => h, fun _ _ _ h => h, fun i p hn hp => absurd (hA.rel.lt i p hp) (by omega), fun i o hi ho => ?_, fun i hi hm' => ?_⟩
    · rw [St.get_put] at ho
      split at ho
      · rename_i e
        subst e
        cases ho
        exact ⟨_, hs, rfl⟩
      · exact ⟨o, ho, rfl⟩
    · rw [St.get_put, if_neg]
      rintro rfl
      exact hm' hmm
  refine ⟨⟨fun i p' hp' => ?_, hA.rel.inj, hA.rel.lo, hA.rel.gl, hA.rel.size, hA.rel.tape, hA.rel.os⟩, ⟨hA.tr.1, fun i => (hA.tr.2 i).mono (F hm)⟩, hA.de, hA.fr.trans (F hm)⟩
  obtain ⟨k1, o, k2, k3⟩ := hA.rel.obj i p' hp'
  refine ⟨k1, ?_⟩
  rw [St.get_put]
  by_cases e : i = id
  · subst e
    rw [if_pos rfl]
    refine ⟨_, rfl, ?_⟩
    obtain rfl : o = .row sz (true, ty) es := Option.some.inj (k2.symm.trans hs)
    obtain rfl : p = p' := Option.some.inj (hq.symm.trans hp')
    obtain ⟨a1, us, t, lo, hi, a2, a3, a4, a5, a6, a7, a8⟩ := k3
    obtain ⟨rfl, rfl⟩ := a3.1 rfl
    have hlen : (es ++ List.replicate (h - len) (List.replicate sz AV.junk)).length = off + h := by simp; omega
    have hcells : (off + h) * sz ≤ p.2 := Nat.le_trans (Nat.mul_le_mul_right _ (by omega)) h4
    refine ⟨a1, us, t, 0, 0, a2, a3, .inr (Nat.le_refl _), a5, by rw [hlen]; exact hcells, fun e he => (List.mem_append.1 he).elim (a7 e) fun he => by rw [List.eq_of_mem_replicate he]; simp, fun i j x hx => ?_⟩
    have hall : ∀ y ∈ es ++ List.replicate (h - len) (List.replicate sz AV.junk), y.length = sz := fun e he => (List.mem_append.1 he).elim (a7 e) fun he => by rw [List.eq_of_mem_replicate he]; simp
    obtain ⟨hi1, hj1⟩ := get2_lt hall hx
    rw [get2_append] at hx
    split at hx
    · obtain ⟨u, b1, b2⟩ := a8 i j x hx
      exact ⟨u, b1, b2.mono (F hm)⟩
    · obtain rfl := get2_junk _ _ _ _ _ hx
      have h5 := idx_lt hi1 hj1
      rw [hlen] at h5
      have h6 : p.1.off + (i * sz + j) < us.size := by omega
      exact ⟨us[p.1.off + (i * sz + j)], Array.getElem?_eq_getElem h6, .junk _⟩
  · rw [if_neg e]
    exact ⟨o, k2, k3.mono (F hm) rfl⟩
/-- append(x, make(..)..) that has no room: a new row. -/
theorem OTL.appendZ {i x y id off len m sz : Nat} {q : Addr} {cap : Nat} {t tn e : TypeId} {kk kn : IntKind} {r : RK} {es : List (List AV)} {tx tt tE : TI} {rest : List Nat} {o : Oper} {c : Call} (ho : ops[i]? = some o) (hw : awanted ops T o = some true)
    (hop : o.op = .call c) (hc : c.callee = .builtin .append) (hca : c.args = #[.tmp x, .tmp y]) (hct : c.argTypes = #[t, tn]) (hd : o.dst.all (fun i => decide (i < C.nt)) = true)
    (htx : C.E.ti t = some tx) (he : tx.desc = .slice e) (htn : C.E.ti tn = some tt) (hen : tt.desc = .int kn) (hE : C.E.ti e = some tE) (hz : tE.zero.length = tE.size) (hsz : tE.size = sz) (h0 : 0 < sz) (hx : (x, Value.slice (some q) len cap) ∈ L)
    (hX : T.get x = .ls id off len) (hY : T.get y = .int kk (m : Int)) (hs : s.get id = some (.row sz r es)) (hle : off + len ≤ es.length) (hm : 0 < m) (hgr : cap < len + m) (hby : (len + m) * tE.bytes ≤ 2 ^ 47) (h63 : tE.bytes ≠ 0)
    (hL : (L.all fun p => o.dst != some p.1) = true) (hes : ∀ y ∈ es, y.length = sz)
    (kont : OTL C ops L L1 N Q rest (T.put o.dst (.ls s.nx 0 (len + m))) (s.push (.row sz (true, e) ((es.drop off).take len ++ List.replicate m (tE.zero.map ofConst))))) : OTL C ops L L1 N Q (i :: rest) T s := by
  subst hsz
  refine OTL.one ho hw hd (fun μ w a hA hT => ?_) kont
  have hq : a.tmps.getD x undef = .slice (some q) len cap := hT _ hx
  have hy := hA.tr.2 y
  rw [hY] at hy
  generalize hyy : a.tmps.getD y undef = vy at hy
  cases hy
  have hv := hA.tr.2 x
  rw [hX, hq] at hv
  obtain ⟨⟨i, hi, his, hib, z, hzz, hzl⟩, _, _⟩ := ti_parts hE
  have hzs : z.cells.size = tE.size := by rw [← hz, ← hzl]; simp
  have hTd : C.E.P.underlying t = some (.slice e) := by
    obtain ⟨_, h1, _⟩ := ti_parts htx
    rw [h1, he]
  have hNd : C.E.P.underlying tn = some (.int kn) := by
    obtain ⟨_, h1, _⟩ := ti_parts htn
    rw [h1, hen]
  have hRd := hA.rel.drew (w.drawn + 1)
  have Fd : Fr C.n0 C.W μ s w μ s w.drew := Fr.drew hA.rel (w.drawn + 1)
  have hard : ard s (.ls id off len) = some ((es.drop off).take len) := by simp only [ard, hs, if_pos hle]
  have hall : ∀ y ∈ (es.drop off).take len, y.length = tE.size := fun y hy => hes y (List.mem_of_mem_drop (List.mem_of_mem_take hy))
  have hlen : ((es.drop off).take len).length = len := by simp; omega
  obtain ⟨_, g0, hold, hg0⟩ := firstCells_sound hRd hard hall (hv.mono Fd) len (by rw [hlen]; exact Nat.le_refl _) (by rintro ⟨b, hb⟩; cases hb)
  rw [List.take_of_length_le (by rw [hlen]; exact Nat.le_refl _)] at hg0
  have h63' : ((len + m : Nat) : Int) ≤ 9223372036854775807 := by
    have : (len + m) * 1 ≤ (len + m) * tE.bytes := Nat.mul_le_mul_left _ (by omega)
    omega
  have hfit : Builtin.nextslicecap (len + m) cap * i.bytes ≤ 281474976710656 := by
    rw [hib]
    exact growslice_fits hgr (by simpa using hby)
  have h48 : m * i.bytes ≤ 281474976710656 := by
    rw [hib]
    have : m * tE.bytes ≤ (len + m) * tE.bytes := Nat.mul_le_mul_right _ (by omega)
    omega
  have hrun := Go.Lib.run_append_grow_zeros (P := C.E.P) w t tn o.type e i z kk kn hTd hNd hi hzz (some q) len cap ((List.range (len * tE.size)).map g0) (by rw [his]; exact hold) m hm (by rw [his]; exact h0) hgr h63' h48 hfit
  have hcap : len + m ≤ grownCap w (len + m) cap e := le_appendCap _ _ _ _
  have hf : Flat μ s w.drew tE.size (List.replicate m (tE.zero.map ofConst)) (fun k => z.cells[k % z.cells.size]!) := fun i j x hx => by
    obtain ⟨hi, hxx⟩ := get2_replicate hx
    rw [List.getElem?_map] at hxx
    cases hg : tE.zero[j]? with
    | none => rw [hg] at hxx; cases hxx
    | some v =>
      rw [hg] at hxx
      obtain rfl := Option.some.inj hxx
      have hj : j < tE.size := by rw [← hz]; exact (List.getElem?_eq_some_iff.1 hg).1
      have : (i * tE.size + j) % z.cells.size = j := by rw [hzs, Nat.mul_comm, Nat.mul_add_mod, Nat.mod_eq_of_lt hj]
      show VR μ s w.drew (ofConst v) (z.cells[(i * tE.size + j) % z.cells.size]!)
      rw [this]
      have hv : z.cells[j]? = some v := by rw [← hg, ← hzl]; simp
      rw [getElem!_def, hv]
      exact VR.const v
  obtain ⟨w', μ', hn, hv', hrel, hfr⟩ := grow_sound (w := w.drew) hRd (n0 := C.n0) (W := C.W) e tE.size true ((es.drop off).take len) (List.replicate m (tE.zero.map ofConst)) g0 (fun k => z.cells[k % z.cells.size]!) (len + m) (grownCap w (len + m) cap e)
    (Builtin.zeroCells z.cells (grownCap w (len + m) cap e - (len + m))) hall (fun y hy => by rw [List.eq_of_mem_replicate hy]; simpa using hz) hg0 hf (by rw [hlen]; simp) hcap (by rw [zeroCells_size, hzs])
  simp only [newRow, Sem.run_bind, run_newObj, Result.andThen_ok, Sem.run_pure, Result.ok.injEq, true_and] at hn
  have hzc : Builtin.zeroCells z.cells m = ((List.range ((List.replicate m (tE.zero.map ofConst)).length * tE.size)).map (fun k => z.cells[k % z.cells.size]!)).toArray := by
    unfold Builtin.zeroCells
    rw [hzs, ← Array.toList_inj]
    simp [Array.toList_map, Array.toList_range]
  have hwe : w' = w.drew.alloc (.cells (((List.range (len * tE.size)).map g0).toArray ++ Builtin.zeroCells z.cells m ++ Builtin.zeroCells z.cells (grownCap w (len + m) cap e - (len + m))) e) := by
    rw [← hn, hzc, hlen]
    simp [World.alloc]
  refine ⟨_, w', μ', ?_, hv', hrel, Fd.trans hfr, hT.put hL⟩
  have hq' : a.tmps[x]?.getD undef = .slice (some q) len cap := by rw [← hq, Array.getD_eq_getD_getElem?]
  have hyy' : a.tmps[y]?.getD undef = .int kk m := by rw [← hyy, Array.getD_eq_getD_getElem?]
  simp [execOp, hop, resolve, hc, hca, hct, invoke, builtin, Act.eval, hq', hyy', hrun, hwe, Result.andThen]
end
/-! ### overlaps -/
theorem run_overlaps_own {P : Program} (w : World) (tS tR e : TypeId) (ht : P.underlying tS = some (.slice e)) (size : Nat) (hz : ∀ w, (Go.sizeOf e).run P w = .ok size w)
    (a b : Addr) (la ca lb cb : Nat) (hne : a.block ≠ b.block) (tA tB : TypeId) (kA kB : Nat)
    (hsa : w.shape? a.block = some (tA, kA)) (hsb : w.shape? b.block = some (tB, kB)) (hkA : kA ≠ 0)
    (hfb : w.frozen? b = false) (hfe : w.frozen? { block := b.block, off := kB } = false) :
    (Extern.SlicesOverlaps.overlaps #[tS, tS] #[tR] #[.slice (some a) la ca, .slice (some b) lb cb]).run P w = .ok (.bool false) w := by
  have hnb : (a.block != b.block) = true := by simpa using hne
  have hnb' : (a.block == b.block) = false := by simpa using hne
  change Sem.run P (α := Value) (do
    let some t := (#[tS, tS] : Array TypeId)[0]? | stuck "slices.overlaps: no parameter types"
    let .slice elem ← underlying t | stuck "slices.overlaps: slice type expected"
    let size ← sizeOf elem
    match (some a : Option Addr), (some b : Option Addr) with
    | some a, some b =>
      if la = 0 ∨ lb = 0 ∨ size = 0 then pure (Value.bool false)
      else if a.block != b.block && (← frozen a) && (← frozen b) then unsupported .addressObserved
      else do
        if a.block != b.block then do
          noView a; noView b
          if ← mayBeOne a b then return Value.bool ((← choose (.extern "sameAddr.stringBytes" 2)) == 1)
        pure (Value.bool (a.block == b.block && a.off < b.off + lb * size && b.off < a.off + la * size))
    | _, _ => pure (Value.bool false)) w = _
  by_cases h0 : la = 0 ∨ lb = 0 ∨ size = 0
  · simp [run_underlying ht, hz, h0]
  · cases kA with
    | zero => exact absurd rfl hkA
    | succ kA =>
      cases hfa : w.frozen? a <;> cases hfa2 : w.frozen? { block := a.block, off := kA + 1 } <;>
      simp [run_underlying ht, hz, h0, hnb, hnb', frozen, noView, viewAt, mayBeOne, stringish, shape, Sem.run, hsa, hsb, hfb, hfe, hfa, hfa2]
theorem fx_overlaps {E : Env} {f : FuncId} {fn : Func} {tS tR e : TypeId} {tx te : TI} {s : St} (hf : E.P.funcs[f]? = some fn) (hname : (fn.name == "runtime.NumGoroutine") = false) (hb : fn.body.isNone = true) (hn : Extern.findNext fn = none)
    (he : Extern.find fn = some (Extern.SlicesOverlaps.overlaps #[tS, tS] #[tR])) (htx : E.ti tS = some tx) (hd : tx.desc = .slice e) (hte : E.ti e = some te)
    {c : AV} {cs : List AV} {xs : List (List AV)} {id off len sz : Nat} {ty : TypeId} {es : List (List AV)} (hs : s.get id = some (.row sz (true, ty) es)) : FX E f [.sl ((c :: cs) :: xs), .ls id off len] s (.bool false) := by
  intro μ w vs hR hv
  have h1 : vs.size = 2 := by rw [← hv.1]; rfl
  obtain ⟨v, u, rfl⟩ : ∃ v u, vs = #[v, u] := ⟨vs[0], vs[1], Array.ext (by simpa using h1) (fun i h1 h2 => by
    simp at h2
    match i, h2 with
    | 0, _ => rfl
    | 1, _ => rfl)⟩
  have k1 := hv.2 0 _ v rfl rfl
  have k2 := hv.2 1 _ u rfl rfl
  have hu : E.P.underlying tS = some (.slice e) := by
    obtain ⟨_, h1, _⟩ := ti_parts htx
    rw [h1, hd]
  refine ⟨.bool false, ?_, .bool false⟩
  rw [run_callFunc_extern hf hname hb hn he]
  cases k1 with
  | sl _ a cap sz1 vs1 hbl hm hsp hcap hsz hc h =>
  cases k2 with
  | ls _ _ _ _ h2 hid hp =>
  rcases hp _ _ _ hs with ⟨rfl, a0, rfl⟩ | ⟨p, cap2, hq, rfl, hlc, hcr⟩
  · have : (Extern.SlicesOverlaps.overlaps #[tS, tS] #[tR] #[.slice (some a) ((c :: cs) :: xs).length cap, .slice a0 0 0]).run E.P w = .ok (.bool false) w := by
      change Sem.run E.P (α := Value) (do
        let some t := (#[tS, tS] : Array TypeId)[0]? | stuck "slices.overlaps: no parameter types"
        let .slice elem ← underlying t | stuck "slices.overlaps: slice type expected"
        let size ← sizeOf elem
        match (some a : Option Addr), a0 with
        | some a, some b =>
          if ((c :: cs) :: xs).length = 0 ∨ 0 = 0 ∨ size = 0 then pure (Value.bool false)
          else if a.block != b.block && (← frozen a) && (← frozen b) then unsupported .addressObserved
          else do
            if a.block != b.block then do
              noView a; noView b
              if ← mayBeOne a b then return Value.bool ((← choose (.extern "sameAddr.stringBytes" 2)) == 1)
            pure (Value.bool (a.block == b.block && a.off < b.off + 0 * size && b.off < a.off + ((c :: cs) :: xs).length * size))
        | _, _ => pure (Value.bool false)) w = _
      cases a0 <;> simp [run_underlying hu, run_sizeOf' hte]
    rw [this]; rfl
  · obtain ⟨_, o, ho, hr⟩ := hR.obj id p hq
    obtain rfl : o = .row sz (true, ty) es := Option.some.inj (ho.symm.trans hs)
    obtain ⟨hsp2, us, t, lo, hi, hh, hfr, _⟩ := hr
    obtain ⟨rfl, rfl⟩ := hfr.1 rfl
    have hcell := hc 0 0 c (by simp [get2])
    simp only [Nat.zero_mul, Nat.zero_add, Addr.add_zero] at hcell
    have hA : ∃ us1 t1 f1, w.heap[a.block]? = some (.cells us1 t1 f1) ∧ us1.size ≠ 0 := by
      unfold World.cell? at hcell
      split at hcell
      · rename_i us1 t1 f1 hheap
        refine ⟨us1, t1, f1, hheap, ?_⟩
        split at hcell
        · cases hcell
        · have := (Array.getElem?_eq_some_iff.1 hcell).1
          omega
      · cases hcell
    obtain ⟨us1, t1, f1, hheap, hus1⟩ := hA
    rw [run_overlaps_own w tS tR e hu te.size (run_sizeOf' hte) a (p.1.add (off * sz)) _ cap len cap2 (by rw [Addr.add_block]; exact fun e => hm id p hq e.symm) t1 t us1.size us.size (by simp [World.shape?, hheap]) (by simp [World.shape?, Addr.add_block, hh]) hus1
      (by simp [World.frozen?, Addr.add_block, hh]) (by simp [World.frozen?, Addr.add_block, hh])]
    rfl
theorem FOk.addXs {E : Env} {F : Fns} {f : FuncId} {g : List AV → St → Option (AV × St × List Nat)} (h : FOk E F) (hg : ∀ xs s r s' l, g xs s = some (r, s', l) → FX E f xs s r ∧ s' = s) : FOk E (F.add f g) := by
  intro f' xs s r s' l he
  unfold Fns.add at he
  split at he
  · rename_i e; subst e; exact .inr (hg xs s r s' l he)
  · exact h f' xs s r s' l he
/-- A callee that only reads may be handed a row of one's own as data. -/
theorem FT.view {E : Env} {f : FuncId} {args : List AV} {s : St} {r : AV} {id sz : Nat} {k : RK} {es : List (List AV)} (hs : s.get id = some (.row sz k es)) (hr : ∀ (μ μ' : Mu) (s s' : St) (w w' : World) (v : Value), VR μ s w r v → VR μ' s' w' r v)
    (h : FT E NoW f (.sl es :: args) (s.drop id) r (s.drop id)) : FT E NoW f (.ls id 0 es.length :: args) s r s := by
  refine FT.below h.1 fun μ w vs hR hv => ?_
  refine Calls.mono (h.2 (μ.del id) w vs hR.del ⟨by simpa using hv.1, fun i x v hx hv' => ?_⟩) fun e w' he => ?_
  · cases i with
    | zero =>
      simp at hx
      subst hx
      exact (hv.2 0 _ v rfl hv').fz hR hs
    | succ i => exact (hv.2 (i + 1) x v (by simpa using hx) hv').del
  · obtain ⟨v, μ', he, h1, h2, h3⟩ := he
    refine ⟨v, he, hr _ _ _ _ _ _ v h1, h3.os, h3.tape, h3.output, h3.size, fun k hk => h3.blocks k hk fun j p hj hp => ?_⟩
    obtain ⟨_, hp⟩ := Mu.del_some hp
    have := hR.lt j p hp
    rcases hj with hj | hj
    · exact hj.elim
    · exact absurd this (Nat.not_lt.2 hj)
end Go.Am
namespace Go.Am
/-! ### nil slices as empty ones -/
def nrm0 : AV → AV
  | .nsl => .sl []
  | x => x
def nrm : AV → AV
  | .agg cs => .agg (cs.map nrm0)
  | x => nrm0 x
theorem vr_nrm0 {μ : Mu} {w : World} {s : St} {x : AV} {v : Value} (h : VR μ s w x v) : VR μ s w (nrm0 x) v := by
  unfold nrm0
  split
  · cases h; exact .slnil _
  · exact h
theorem vr_nrm {μ : Mu} {w : World} {s : St} {x : AV} {v : Value} (h : VR μ s w x v) : VR μ s w (nrm x) v := by
  unfold nrm
  split
  · cases h with
    | agg cs vs hl h =>
      refine .agg _ _ (by simpa using hl) fun i x v hx hv => ?_
      rw [List.getElem?_map] at hx
      obtain ⟨y, hy, rfl⟩ := Option.map_eq_some_iff.1 hx
      exact vr_nrm0 (h i y v hy hv)
  · exact vr_nrm0 h
theorem FT.nrm {E : Env} {W : Nat → Prop} {f : FuncId} {xs : List AV} {s s' : St} {r : AV} (h : FT E W f (xs.map nrm) s r s') : FT E W f xs s r s' :=
  h.args fun μ w vs hv => by
    obtain ⟨hn, hg⟩ := hv
    refine ⟨by simpa using hn, fun i a v ha hv => ?_⟩
    rw [List.getElem?_map] at ha
    obtain ⟨y, hy, rfl⟩ := Option.map_eq_some_iff.1 ha
    exact vr_nrm (hg i y v hy hv)
def Fns.addN (F : Fns) (f : FuncId) (p : List AV → Option AV) : Fns := F.addP f fun xs => p (xs.map nrm)
theorem FOk.addN {E : Env} {F : Fns} {f : FuncId} {p : List AV → Option AV} (h : FOk E F) (hp : ∀ xs s r, p xs = some r → FT E NoW f xs s r s) : FOk E (F.addN f p) :=
  h.addP fun xs s r he => FT.nrm (hp _ s r he)
end Go.Am
namespace Go.Am
/-- As FT.view, the row at any place among the arguments. -/
theorem FT.viewAt {E : Env} {f : FuncId} {xs ys : List AV} {s : St} {r : AV} {id sz : Nat} {k : RK} {es : List (List AV)} (hs : s.get id = some (.row sz k es)) (hr : ∀ (μ μ' : Mu) (s s' : St) (w w' : World) (v : Value), VR μ s w r v → VR μ' s' w' r v)
    (hl : xs.length = ys.length) (hxy : ∀ (i : Nat) (x y : AV), xs[i]? = some x → ys[i]? = some y → y = x ∨ (x = .ls id 0 es.length ∧ y = .sl es)) (h : FT E NoW f ys (s.drop id) r (s.drop id)) : FT E NoW f xs s r s := by
  refine FT.below h.1 fun μ w vs hR hv => ?_
  refine Calls.mono (h.2 (μ.del id) w vs hR.del ⟨by rw [← hl]; exact hv.1, fun i y v hy hv' => ?_⟩) fun e w' he => ?_
  · have hlt : i < xs.length := by rw [hl]; exact (List.getElem?_eq_some_iff.1 hy).1
    have hx : xs[i]? = some xs[i] := List.getElem?_eq_getElem hlt
    have h1 := hv.2 i _ v hx hv'
    rcases hxy i _ y hx hy with rfl | ⟨h2, rfl⟩
    · exact h1.del
    · rw [h2] at h1
      exact h1.fz hR hs
  · obtain ⟨v, μ', he, h1, h2, h3⟩ := he
    refine ⟨v, he, hr _ _ _ _ _ _ v h1, h3.os, h3.tape, h3.output, h3.size, fun k hk => h3.blocks k hk fun j p hj hp => ?_⟩
    obtain ⟨_, hp⟩ := Mu.del_some hp
    have := hR.lt j p hp
    rcases hj with hj | hj
    · exact hj.elim
    · exact absurd this (Nat.not_lt.2 hj)
end Go.Am
namespace Go.Am
/-! ### nil slices as empty ones, however deep -/
def nrmF : Nat → AV → AV
  | 0, x => x
  | _ + 1, .nsl => .sl []
  | n + 1, .agg c => .agg (c.map (nrmF n))
  | n + 1, .sl es => .sl (es.map fun e => e.map (nrmF n))
  | _ + 1, x => x
theorem get2_map {f : AV → AV} {xs : List (List AV)} {i j : Nat} {x : AV} (h : get2 (xs.map fun e => e.map f) i j = some x) : ∃ y, get2 xs i j = some y ∧ x = f y := by
  simp only [get2, List.getElem?_map] at h ⊢
  cases hi : xs[i]? with
  | none => simp [hi] at h
  | some e =>
    simp [hi] at h ⊢
    obtain ⟨a, h1, h2⟩ := h
    exact ⟨a, h1, h2.symm⟩
theorem vr_nrmF {μ : Mu} {w : World} {s : St} : ∀ (n : Nat) {x : AV} {v : Value}, VR μ s w x v → VR μ s w (nrmF n x) v
  | 0, x, v, h => h
  | n + 1, x, v, h => by
    cases x
    case nsl => cases h; exact .slnil _
    case agg c =>
      cases h with
      | agg _ vs hl h =>
        refine .agg _ _ (by simpa using hl) fun i x v hx hv => ?_
        rw [List.getElem?_map] at hx
        obtain ⟨y, hy, rfl⟩ := Option.map_eq_some_iff.1 hx
        exact vr_nrmF n (h i y v hy hv)
    case sl l =>
      cases h with
      | slnil a => exact .slnil _
      | sl _ a cap sz vs hb hm hsp hcap hsz hc h =>
        have := VR.sl (μ := μ) (s := s) (w := w) (l.map fun e => e.map (nrmF n)) a cap sz vs hb hm (fun hne => hsp fun e => hne (by simp [e])) (by simpa using hcap)
          (fun x hx => by
            obtain ⟨y, hy, rfl⟩ := List.mem_map.1 hx
            simpa using hsz y hy)
          (fun i j x hx => by
            obtain ⟨y, hy, rfl⟩ := get2_map hx
            exact hc i j y hy)
          (fun i j x hx => by
            obtain ⟨y, hy, rfl⟩ := get2_map hx
            exact vr_nrmF n (h i j y hy))
        rw [List.length_map] at this
        exact this
    all_goals exact h
theorem FT.nrmF {E : Env} {W : Nat → Prop} {f : FuncId} {xs : List AV} {s s' : St} {r : AV} (n : Nat) (h : FT E W f (xs.map (nrmF n)) s r s') : FT E W f xs s r s' :=
  h.args fun μ w vs hv => by
    obtain ⟨hn, hg⟩ := hv
    refine ⟨by simpa using hn, fun i a v ha hv => ?_⟩
    rw [List.getElem?_map] at ha
    obtain ⟨y, hy, rfl⟩ := Option.map_eq_some_iff.1 ha
    exact vr_nrmF n (hg i y v hy hv)
def Fns.addD (F : Fns) (n : Nat) (f : FuncId) (p : List AV → Option AV) : Fns := F.addP f fun xs => p (xs.map (nrmF n))
theorem FOk.addD {E : Env} {F : Fns} {n : Nat} {f : FuncId} {p : List AV → Option AV} (h : FOk E F) (hp : ∀ xs s r, p xs = some r → FT E NoW f xs s r s) : FOk E (F.addD n f p) :=
  h.addP fun xs s r he => FT.nrmF n (hp _ s r he)
end Go.Am
namespace Go.Am
/-- A row, or a struct that has it as a field, as data. -/
inductive Vw (id : Nat) (es : List (List AV)) : AV → AV → Prop
  | same (x : AV) : Vw id es x x
  | row : Vw id es (.ls id 0 es.length) (.sl es)
  | agg (a b : List AV) : Vw id es (.agg (a ++ .ls id 0 es.length :: b)) (.agg (a ++ .sl es :: b))
theorem Vw.vr {E : Env} {μ : Mu} {s : St} {w : World} {id sz : Nat} {k : RK} {es : List (List AV)} {x y : AV} {v : Value} (R : Rel E μ s w) (hs : s.get id = some (.row sz k es)) (h : Vw id es x y) (hv : VR μ s w x v) : VR (μ.del id) (s.drop id) w y v := by
  cases h with
  | same => exact hv.del
  | row => exact hv.fz R hs
  | agg a b =>
    cases hv with
    | agg _ vs hl h =>
      refine .agg _ _ (by simpa using hl) fun i x v hx hv => ?_
      rw [List.getElem?_append] at hx
      split at hx
      · rename_i hi
        exact (h i x v (by rw [List.getElem?_append_left hi]; exact hx) hv).del
      · rename_i hi
        cases hj : i - a.length with
        | zero =>
          rw [hj] at hx
          simp at hx
          subst hx
          exact (h i (.ls id 0 es.length) v (by rw [List.getElem?_append_right (by omega), hj]; rfl) hv).fz R hs
        | succ j =>
          rw [hj] at hx
          exact (h i x v (by rw [List.getElem?_append_right (by omega), hj]; simpa using hx) hv).del
/-- As FT.viewAt, the row maybe a struct's field. -/
theorem FT.viewIn {E : Env} {f : FuncId} {xs ys : List AV} {s : St} {r : AV} {id sz : Nat} {k : RK} {es : List (List AV)} (hs : s.get id = some (.row sz k es)) (hr : ∀ (μ μ' : Mu) (s s' : St) (w w' : World) (v : Value), VR μ s w r v → VR μ' s' w' r v)
    (hl : xs.length = ys.length) (hxy : ∀ (i : Nat) (x y : AV), xs[i]? = some x → ys[i]? = some y → Vw id es x y) (h : FT E NoW f ys (s.drop id) r (s.drop id)) : FT E NoW f xs s r s := by
  refine FT.below h.1 fun μ w vs hR hv => ?_
  refine Calls.mono (h.2 (μ.del id) w vs hR.del ⟨by rw [← hl]; exact hv.1, fun i y v hy hv' => ?_⟩) fun e w' he => ?_
  · have hlt : i < xs.length := by rw [hl]; exact (List.getElem?_eq_some_iff.1 hy).1
    have hx : xs[i]? = some xs[i] := List.getElem?_eq_getElem hlt
    exact (hxy i _ y hx hy).vr hR hs (hv.2 i _ v hx hv')
  · obtain ⟨v, μ', he, h1, h2, h3⟩ := he
    refine ⟨v, he, hr _ _ _ _ _ _ v h1, h3.os, h3.tape, h3.output, h3.size, fun k hk => h3.blocks k hk fun j p hj hp => ?_⟩
    obtain ⟨_, hp⟩ := Mu.del_some hp
    have := hR.lt j p hp
    rcases hj with hj | hj
    · exact hj.elim
    · exact absurd this (Nat.not_lt.2 hj)
end Go.Am
namespace Go.Rf
open Go.RowKit
/-! ### a loop over an iterator that itself holds such a loop -/
/-- The iterator's own steps: what is cells stays; what lay ahead of B stays. -/
structure Os (B : Nat) (W W' : World) : Prop where
  os : W'.os = W.os
  tape : W'.tape = W.tape
  output : W'.output = W.output
  size : W.heap.size ≤ W'.heap.size
  same : ∀ (k : Nat) (o : Obj), W.heap[k]? = some o → (k < B ∨ o.isCells = true) → W'.heap[k]? = some o
theorem Os.refl (B : Nat) (W : World) : Os B W W := ⟨rfl, rfl, rfl, Nat.le_refl _, fun _ _ h _ => h⟩
theorem Os.trans {B : Nat} {W W' W'' : World} (h : Os B W W') (k : Os B W' W'') : Os B W W'' :=
  ⟨k.os.trans h.os, k.tape.trans h.tape, k.output.trans h.output, Nat.le_trans h.size k.size, fun i o hi ho => k.same i o (h.same i o hi ho) ho⟩
theorem Os.mono {B B' : Nat} {W W' : World} (h : Os B W W') (hb : B' ≤ B) : Os B' W W' := ⟨h.os, h.tape, h.output, h.size, fun k o hk ho => h.same k o hk (ho.imp_left fun h => Nat.lt_of_lt_of_le h hb)⟩
theorem Os.alloc (B : Nat) (W : World) (o : Obj) : Os B W (W.alloc o) := ⟨rfl, rfl, rfl, by simp, fun k o' hk _ => (Below.heap_alloc W o k (Array.getElem?_eq_some_iff.1 hk).1).trans hk⟩
theorem Os.put {B : Nat} {W : World} {l : Nat} {o : Obj} (o' : Obj) (hl : W.heap[l]? = some o) (ho : o.isCells = false) (hB : B ≤ l) : Os B W (W.putObj l o') := by
  refine ⟨rfl, rfl, rfl, by simp, fun k o1 hk h1 => ?_⟩
  by_cases e : k = l
  · subst e
    rw [hl] at hk
    obtain rfl := Option.some.inj hk
    rcases h1 with h1 | h1
    · omega
    · rw [ho] at h1; cases h1
  · exact (World.putObj_heap_other e).trans hk
/-- J abides them. -/
def AbO {β : Type} (B : Nat) (J : β → World → Prop) : Prop := ∀ s W W', J s W → Os B W W' → J s W'
theorem AbO.mono {β : Type} {B B' : Nat} {J : β → World → Prop} (h : AbO B J) (hb : B ≤ B') : AbO B' J := fun s W W' hs ho => h s W W' hs (ho.mono hb)

/-- What a round keeps: what lay ahead of n₀; cells of the types of tp; what is no cells and lies behind l. -/
structure Kp (n₀ : Nat) (tp : TypeId → Prop) (l : Nat) (W W' : World) : Prop where
  below : Below n₀ W W'
  cells : ∀ (k : Nat) vs t fr, tp t → W.heap[k]? = some (.cells vs t fr) → W'.heap[k]? = some (.cells vs t fr)
  rest : ∀ (k : Nat) (o : Obj), l < k → W.heap[k]? = some o → o.isCells = false → W'.heap[k]? = some o
theorem Kp.refl (n₀ : Nat) (tp : TypeId → Prop) (l : Nat) (W : World) : Kp n₀ tp l W W := ⟨Below.refl _ _, fun _ _ _ _ _ h => h, fun _ _ _ h _ => h⟩
theorem Kp.trans {n₀ : Nat} {tp : TypeId → Prop} {l : Nat} {W W' W'' : World} (h : Kp n₀ tp l W W') (k : Kp n₀ tp l W' W'') : Kp n₀ tp l W W'' :=
  ⟨h.below.trans k.below, fun i vs t fr ht hi => k.cells i vs t fr ht (h.cells i vs t fr ht hi), fun i o hl hi ho => k.rest i o hl (h.rest i o hl hi ho) ho⟩
theorem Kp.mono {n₀ : Nat} {tp : TypeId → Prop} {l l' : Nat} {W W' : World} (h : Kp n₀ tp l W W') (hl : l ≤ l') : Kp n₀ tp l' W W' := ⟨h.below, h.cells, fun k o hk => h.rest k o (by omega)⟩
theorem Kp.put {n₀ : Nat} {tp : TypeId → Prop} {l : Nat} {W : World} {o : Obj} (o' : Obj) (hl : W.heap[l]? = some o) (ho : o.isCells = false) (hn : n₀ ≤ l) : Kp n₀ tp l W (W.putObj l o') := by
  refine ⟨⟨rfl, rfl, rfl, by simp, fun k hk => World.putObj_heap_other (by omega)⟩, fun k vs t fr _ hk => ?_, fun k o1 hlk hk _ => ?_⟩
  · by_cases e : k = l
    · subst e
      rw [hl] at hk
      obtain rfl := Option.some.inj hk
      cases ho
    · exact (World.putObj_heap_other e).trans hk
  · exact (World.putObj_heap_other (by omega)).trans hk
theorem Kp.of_os {n₀ : Nat} {tp : TypeId → Prop} {l B : Nat} {W W' : World} (h : Os B W W') (hn : n₀ ≤ W.heap.size) (hb : ∀ (k : Nat) o, W.heap[k]? = some o → o.isCells = false → W'.heap[k]? = some o) : Kp n₀ tp l W W' := by
  refine ⟨⟨h.os, h.tape, h.output, h.size, fun k hk => ?_⟩, fun k vs t fr _ hk => h.same k _ hk (.inr rfl), fun k o _ hk ho => hb k o hk ho⟩
  have hlt : k < W.heap.size := by omega
  have hg : W.heap[k]? = some W.heap[k] := Array.getElem?_eq_getElem hlt
  rw [hg]
  cases ho : (W.heap[k]).isCells
  · exact hb k _ hg ho
  · exact h.same k _ hg (.inr ho)

theorem Kp.putw {n₀ : Nat} {tp : TypeId → Prop} {l₀ l : Nat} {w W : World} {o : Obj} (h : Kp n₀ tp l₀ w W) (o' : Obj) (hl : W.heap[l]? = some o) (hw : w.heap.size ≤ l) (hn : n₀ ≤ w.heap.size) : Kp n₀ tp l₀ w (W.putObj l o') := by
  refine ⟨h.below.trans ⟨rfl, rfl, rfl, by simp, fun k hk => World.putObj_heap_other (by omega)⟩, fun k vs t fr ht hk => ?_, fun k o1 hlk hk ho => ?_⟩
  · have := (Array.getElem?_eq_some_iff.1 hk).1
    exact (World.putObj_heap_other (by omega)).trans (h.cells k vs t fr ht hk)
  · have := (Array.getElem?_eq_some_iff.1 hk).1
    exact (World.putObj_heap_other (by omega)).trans (h.rest k o1 hlk hk ho)
theorem Kp.os {n₀ : Nat} {tp : TypeId → Prop} {l₀ B : Nat} {w W W' : World} (h : Kp n₀ tp l₀ w W) (ho : Os B W W') (hw : w.heap.size ≤ B) (hn : n₀ ≤ w.heap.size) : Kp n₀ tp l₀ w W' := by
  refine ⟨h.below.trans ⟨ho.os, ho.tape, ho.output, ho.size, fun k hk => ?_⟩, fun k vs t fr ht hk => ho.same k _ (h.cells k vs t fr ht hk) (.inr rfl), fun k o hlk hk hoc => ho.same k o (h.rest k o hlk hk hoc) (.inl ?_)⟩
  · have hlt : k < W.heap.size := by have := h.below.size; omega
    rw [ho.same k _ (Array.getElem?_eq_getElem hlt) (.inl (by omega)), Array.getElem?_eq_getElem hlt]
  · have := (Array.getElem?_eq_some_iff.1 hk).1; omega
/-- An iterator: for each element one round, in turn. Sp: what is told as far as it has come; S: of the whole. -/
def Iter {α : Type} (P : Program) (g : Nat) (lb : Array Value) (encs : α → Array Value) (n₀ : Nat) (tp : TypeId → Prop) (Sp S : List α → Prop) (w : World) : Prop :=
  ∀ (l : Nat) (J Jx : List α → World → Prop) (W : World), Kp n₀ tp l w W → w.heap.size ≤ W.heap.size → l < W.heap.size → n₀ ≤ l → AbO W.heap.size J → AbO W.heap.size Jx →
    (∀ pre x W1, Sp (pre ++ [x]) → J pre W1 → YieldAt Fence.wide 0 P l (encs x) W1 fun e W' =>
      (e = .returned (.bool true) ∧ J (pre ++ [x]) W' ∧ Kp n₀ tp l W1 W') ∨ (e = .returned (.bool false) ∧ Jx (pre ++ [x]) W' ∧ Kp n₀ tp l W1 W')) →
    J [] W →
    CallsIn Fence.wide 0 P g (#[.func (.yield l) #[] #[]] ++ lb) W fun e W' => (∃ v, e = .returned v) ∧ ((∃ xs, S xs ∧ J xs W' ∧ Kp n₀ tp l W W') ∨ (∃ pre, Jx pre W'))

/-- How a round's body may be left. -/
def rndPost {α : Type} (n₀ : Nat) (tp : TypeId → Prop) (l₀ : Nat) (I Ix : List α → World → Prop) (xs : List α) (W : World) : Exit → Act → World → Prop
  | .normal, _, W' => Kp n₀ tp l₀ W W' ∧ I xs W'
  | .ret, _, W' => Kp n₀ tp l₀ W W' ∧ Ix xs W'
  | _, _, _ => False

/-- The loop, in a function's own frame. l₀: a record that rounds may turn (an enclosing loop's), or any number ahead. -/
theorem range_law {α : Type} {P : Program} {g : Operand} {ps : Array Tmp} {assign body : Code} {Q : Exit → Act → World → Prop} {a : Act} {w : World}
    {gf : Nat} {lb : Array Value} (hg : a.eval g = .func (.func gf) #[] lb) (eg : ∀ args w, (callFunc gf args).run P w = .ok (.enter gf args) w)
    {encs : α → Array Value} {n₀ l₀ : Nat} {tp : TypeId → Prop} {Sp S : List α → Prop} (hit : Iter P gf lb encs n₀ tp Sp S w) (hn₀ : n₀ ≤ w.heap.size) (hl₀ : l₀ < w.heap.size) (hps : ∀ x, (encs x).size = ps.size)
    (I Ix : List α → World → Prop) (hI : AbO w.heap.size I) (hIx : AbO w.heap.size Ix) (h0 : I [] w)
    (M : List α → α → Act → World → Prop) (hM : ∀ pre x a1 W W', M pre x a1 W → Os w.heap.size W W' → M pre x a1 W')
    (hassign : ∀ (l : Nat) (pre : List α) (x : α) (W : World), Sp (pre ++ [x]) → I pre W → assign.wpIn (Fence.wide.inRound l) 0 P (fun e a1 W1 => e = .normal ∧ Kp n₀ tp l₀ W W1 ∧ M pre x a1 W1) { tmps := (ps.zip (encs x)).foldl (fun t (p, v) => t.setIfInBounds p v) a.tmps, defers := [] } W)
    (hbody : ∀ (l : Nat) (pre : List α) (x : α) (a1 : Act) (W : World), M pre x a1 W → body.wpIn (Fence.wide.inRound l) 0 P (rndPost n₀ tp l₀ I Ix (pre ++ [x]) W) a1 W)
    (hdone : ∀ (D : Nat) (xs : List α) (W : World), w.heap.size ≤ D → S xs → I xs W → W.heap[D]? = some (.deferred (some [])) → Kp n₀ tp l₀ w W → Q .normal { a with defers := { target := .collected D, args := #[] } :: a.defers } W)
    (hstop : ∀ (D : Nat) (pre : List α) (W : World), w.heap.size ≤ D → Ix pre W → W.heap[D]? = some (.deferred (some [])) → Q .ret { a with defers := { target := .collected D, args := #[] } :: a.defers } W) :
    (Code.rangeFunc g ps assign body).wpIn Fence.wide 0 P Q a w := by
  refine wpIn_rangeFunc fun fn hfn => ?_
  obtain ⟨rc, hrc⟩ : ∃ rc : LoopState → Option Code → Loop, rc = fun st pe => { state := st, pending := pe, fn, tmps := a.tmps, params := ps, assign, body, defers := w.heap.size } := ⟨_, rfl⟩
  obtain ⟨W1, hW1⟩ : ∃ W1, (w.alloc (.deferred (some []))).alloc (.loop (rc .ready none)) = W1 := ⟨_, rfl⟩
  have hsz : W1.heap.size = w.heap.size + 1 + 1 := by rw [← hW1]; simp
  have hL1 : W1.heap[w.heap.size + 1]? = some (.loop (rc .ready none)) := by
    rw [← hW1]
    have := World.alloc_heap_new (w.alloc (.deferred (some []))) (.loop (rc .ready none))
    rwa [World.size_alloc] at this
  have hD1 : W1.heap[w.heap.size]? = some (.deferred (some [])) := by
    rw [← hW1]
    exact (Below.heap_alloc _ _ _ (by simp)).trans (World.alloc_heap_new w _)
  have hOs : Os w.heap.size w W1 := by rw [← hW1]; exact (Os.alloc _ _ _).trans (Os.alloc _ _ _)
  have hnc : ∀ (k : Nat) o, w.heap[k]? = some o → o.isCells = false → W1.heap[k]? = some o := fun k o hk _ => hOs.same k o hk (.inl (Array.getElem?_eq_some_iff.1 hk).1)
  have hK1 : ∀ l, Kp n₀ tp l w W1 := fun l => Kp.of_os hOs hn₀ hnc
  refine ⟨w.heap.size + 1, [{ target := .collected w.heap.size, args := #[] }], W1, { target := .fn (.func gf) lb, args := #[.func (.yield (w.heap.size + 1)) #[] #[]] }, W1, gf,
    #[.func (.yield (w.heap.size + 1)) #[] #[]] ++ lb, W1, ?_, ?_, fun _ _ => trivial, ?_, fun h => by simp [Fence.wide] at h, ?_⟩
  · rw [← hW1, hrc]
    exact run_enterLoop_outer _ _ _ _ _
  · simp only [resolve, hg]
    simp [go_sem]
  · simp [invoke, go_sem, eg]
  refine (hit (w.heap.size + 1)
    (fun pre W => I pre W ∧ W.heap[w.heap.size + 1]? = some (.loop (rc .ready none)) ∧ W.heap[w.heap.size]? = some (.deferred (some [])) ∧ Kp n₀ tp l₀ w W)
    (fun pre W => Ix pre W ∧ W.heap[w.heap.size + 1]? = some (.loop (rc .done (some .ret))) ∧ W.heap[w.heap.size]? = some (.deferred (some [])))
    W1 (hK1 _) (by omega) (by omega) (by omega) ?_ ?_ ?_ ⟨hI _ _ _ h0 hOs, hL1, hD1, hK1 _⟩).mono ?_
  · rintro pre W W' ⟨h1, h2, h3, h4⟩ ho
    refine ⟨hI _ _ _ h1 (ho.mono (by omega)), ho.same _ _ h2 (.inl (by omega)), ho.same _ _ h3 (.inl (by omega)), ?_⟩
    refine ⟨h4.below.trans ⟨ho.os, ho.tape, ho.output, ho.size, fun k hk => ?_⟩, fun k vs t fr ht hk => ho.same k _ (h4.cells k vs t fr ht hk) (.inr rfl), fun k o hlk hk hoc => ho.same k o (h4.rest k o hlk hk hoc) (.inl ?_)⟩
    · have hlt : k < W.heap.size := by have := h4.below.size; omega
      rw [ho.same k _ (Array.getElem?_eq_getElem hlt) (.inl (by omega)), Array.getElem?_eq_getElem hlt]
    · have := (Array.getElem?_eq_some_iff.1 hk).1; omega
  · rintro pre W W' ⟨h1, h2, h3⟩ ho
    exact ⟨hIx _ _ _ h1 (ho.mono (by omega)), ho.same _ _ h2 (.inl (by omega)), ho.same _ _ h3 (.inl (by omega))⟩
  · -- a round
    rintro pre x W hsp ⟨hi, hl, hd, hkw⟩
    have hy := run_yield (P := P) (args := encs x) hl (by rw [hrc]; exact hps x)
    rw [hrc] at hy
    refine ⟨fn, _, assign, body, hy, roundIn_of_wpIn hfn (wpIn_mono (hassign _ pre x W hsp hi) ?_)⟩
    rintro e a1 Wa ⟨rfl, hka, hm⟩
    have hla := hka.rest _ _ (by omega) hl rfl
    have hda := hka.rest _ _ (by omega) hd rfl
    have hlt : w.heap.size + 1 < Wa.heap.size := (Array.getElem?_eq_some_iff.1 hla).1
    refine ⟨_, run_beginRound hla (by rw [hrc]), ?_⟩
    have hl2 : (Wa.putObj (w.heap.size + 1) (.loop { rc .ready none with state := .busy })).heap[w.heap.size + 1]? = some (.loop { rc .ready none with state := .busy }) := World.putObj_heap_same hlt
    have hd2 : (Wa.putObj (w.heap.size + 1) (.loop { rc .ready none with state := .busy })).heap[w.heap.size]? = some (.deferred (some [])) := (World.putObj_heap_other (by omega)).trans hda
    have hkb : Kp n₀ tp (w.heap.size + 1) Wa (Wa.putObj (w.heap.size + 1) (.loop { rc .ready none with state := .busy })) := Kp.put _ hla rfl (by omega)
    refine wpIn_mono (hbody _ pre x a1 _ (hM _ _ _ _ _ hm (Os.put _ hla rfl (by omega)))) ?_
    rintro e a3 W3 hp
    cases e with
    | normal =>
      obtain ⟨hk3, hi3⟩ := hp
      have hl3 := hk3.rest _ _ (by omega) hl2 rfl
      have hd3 := hk3.rest _ _ (by omega) hd2 rfl
      have hr := run_endRound (P := P) none hl3
      refine ⟨_, _, hr, .inl ⟨rfl, ⟨hI _ _ _ hi3 (Os.put _ hl3 rfl (by omega)), ?_, (World.putObj_heap_other (by omega)).trans hd3, ?_⟩, ?_⟩⟩
      · rw [World.putObj_heap_same (Array.getElem?_eq_some_iff.1 hl3).1, hrc]
        rfl
      · exact (((hkw.trans hka).putw _ hla (by omega) hn₀).trans hk3).putw _ hl3 (by omega) hn₀
      · exact (hka.mono (by omega)).trans (hkb.trans ((hk3.mono (by omega)).trans (Kp.put _ hl3 rfl (by omega))))
    | ret =>
      obtain ⟨hk3, hi3⟩ := hp
      have hl3 := hk3.rest _ _ (by omega) hl2 rfl
      have hd3 := hk3.rest _ _ (by omega) hd2 rfl
      have hr := run_endRound (P := P) (some .ret) hl3
      refine ⟨_, _, hr, .inr ⟨rfl, ⟨hIx _ _ _ hi3 (Os.put _ hl3 rfl (by omega)), ?_, (World.putObj_heap_other (by omega)).trans hd3⟩, (hka.mono (by omega)).trans (hkb.trans ((hk3.mono (by omega)).trans (Kp.put _ hl3 rfl (by omega))))⟩⟩
      rw [World.putObj_heap_same (Array.getElem?_eq_some_iff.1 hl3).1, hrc]
      rfl
    | _ => exact hp.elim
  · rintro e W2 ⟨⟨v, rfl⟩, (⟨xs, hS, ⟨hi, hl, hd, hkw⟩, hkk⟩ | ⟨pre, hi, hl, hd⟩)⟩
    · refine ⟨none, _, by have := run_endLoop (P := P) hl (by rw [hrc]; simp); rw [hrc] at this; exact this, hdone _ xs _ (Nat.le_refl _) hS (hI _ _ _ hi (Os.put _ hl rfl (by omega))) ((World.putObj_heap_other (by omega)).trans hd) (hkw.putw _ hl (by omega) hn₀)⟩
    · refine ⟨some .ret, _, by have := run_endLoop (P := P) hl (by rw [hrc]; simp); rw [hrc] at this; exact this, ?_⟩
      exact wpIn_ret (hstop _ pre _ (Nat.le_refl _) (hIx _ _ _ hi (Os.put _ hl rfl (by omega))) ((World.putObj_heap_other (by omega)).trans hd))
end Go.Rf
namespace Go.Am
/-! ### whole rows of one's own as arguments: read as data -/
def vw1 (s : St) : AV → AV
  | .ls id 0 n => match s.get id with
    | some (.row _ _ es) => if n = es.length then .sl es else .ls id 0 n
    | _ => .ls id 0 n
  | .nsl => .sl []
  | x => x
def isScal : AV → Bool
  | .bool _ => true
  | .int _ _ => true
  | .str _ => true
  | .tup [.bool _, .bool _] => true
  | _ => false
theorem scal_vr {r : AV} (h : isScal r = true) : ∀ (μ μ' : Mu) (s s' : St) (w w' : World) (v : Value), VR μ s w r v → VR μ' s' w' r v := by
  intro μ μ' s s' w w' v hv
  unfold isScal at h
  split at h
  · cases hv; exact .bool _
  · cases hv; exact .int _ _
  · cases hv; exact .str _
  · cases hv with
    | tup xs vs hl h =>
      refine .tup _ _ hl fun i x v hx hv => ?_
      have := h i x v hx hv
      match i, hx with
      | 0, hx => simp at hx; subst hx; cases this; exact .bool _
      | 1, hx => simp at hx; subst hx; cases this; exact .bool _
      | n + 2, hx => simp at hx
  · cases h
/-- The place of a whole row. -/
def vwId (s : St) : AV → Option Nat
  | .ls id 0 n => match s.get id with
    | some (.row _ _ es) => if n = es.length then some id else none
    | _ => none
  | _ => none
theorem vwId_some {s : St} {x : AV} {id : Nat} (h : vwId s x = some id) : ∃ sz k es, s.get id = some (.row sz k es) ∧ x = .ls id 0 es.length := by
  unfold vwId at h
  split at h
  · split at h
    · rename_i hs
      split at h
      · rename_i hn
        cases h
        exact ⟨_, _, _, hs, by rw [hn]⟩
      · cases h
    · cases h
  · cases h
theorem vw1_row {s : St} {id sz : Nat} {k : RK} {es : List (List AV)} (h : s.get id = some (.row sz k es)) : vw1 s (.ls id 0 es.length) = .sl es := by
  unfold vw1
  simp [h]
theorem vw1_none {s : St} {x : AV} (h : vwId s x = none) : vw1 s x = nrm0 x := by
  cases x with
  | ls id o n =>
    cases o with
    | zero =>
      simp only [vwId] at h
      simp only [vw1, nrm0]
      cases hs : s.get id with
      | none => simp
      | some o =>
        cases o with
        | row sz k es =>
          simp only [hs] at h
          by_cases hn : n = es.length
          · rw [if_pos hn] at h; cases h
          · simp [hn]
        | _ => simp
    | succ o => rfl
  | _ => rfl
def cntV (s : St) (xs : List AV) : Nat := (xs.filter fun x => (vwId s x).isSome).length
theorem vw1_drop {s : St} {id : Nat} (x : AV) (hx : vwId s x ≠ some id) : vw1 (s.drop id) x = vw1 s x ∧ ((vwId (s.drop id) x).isSome = true → (vwId s x).isSome = true) := by
  unfold vw1 vwId at *
  split
  · rename_i i n
    by_cases e : i = id
    · subst e
      simp only at hx
      simp only [St.get_drop, if_pos]
      cases hs : s.get i with
      | none => simp
      | some o =>
        cases o with
        | row sz k es =>
          simp only [hs] at hx
          by_cases hn : n = es.length
          · exact absurd (if_pos hn) hx
          · simp [hn]
        | _ => simp
    · simp [St.get_drop, e]
  · simp
  · rename_i h1 h2
    exact ⟨rfl, fun h => by simp at h⟩
theorem FT.vws {E : Env} {f : FuncId} {r : AV} (hr : isScal r = true) : ∀ (m : Nat) (s : St) (xs : List AV), cntV s xs ≤ m → (∀ s2, FT E NoW f (xs.map (vw1 s)) s2 r s2) → FT E NoW f xs s r s := by
  intro m
  induction m with
  | zero =>
    intro s xs hc h
    have h0 : ∀ x ∈ xs, vwId s x = none := fun x hx => by
      have h1 : (xs.filter fun x => (vwId s x).isSome) = [] := List.eq_nil_of_length_eq_zero (by unfold cntV at hc; omega)
      have := List.filter_eq_nil_iff.1 h1 x hx
      simpa using this
    have he : xs.map (vw1 s) = xs.map nrm0 := List.map_congr_left fun x hx => vw1_none (h0 x hx)
    rw [he] at h
    exact (h s).args fun μ w vs hv => by
      obtain ⟨hn, hg⟩ := hv
      refine ⟨by simpa using hn, fun i a v ha hv => ?_⟩
      rw [List.getElem?_map] at ha
      obtain ⟨y, hy, rfl⟩ := Option.map_eq_some_iff.1 ha
      exact vr_nrm0 (hg i y v hy hv)
  | succ m ih =>
    intro s xs hc h
    by_cases h0 : ∃ x ∈ xs, ∃ id, vwId s x = some id
    · obtain ⟨x, hx, id, hid⟩ := h0
      obtain ⟨sz, k, es, hs, rfl⟩ := vwId_some hid
      let g : AV → AV := fun y => if vwId s y = some id then .sl es else y
      refine FT.viewAt (ys := xs.map g) hs (scal_vr hr) (by simp) (fun i a b ha hb => ?_) (ih (s.drop id) (xs.map g) ?_ ?_)
      · rw [List.getElem?_map, ha] at hb
        simp at hb
        subst hb
        by_cases hy : vwId s a = some id
        · obtain ⟨_, _, es2, h2, h3⟩ := vwId_some hy
          rw [hs] at h2
          cases h2
          right
          exact ⟨h3, by simp [g, hy]⟩
        · left
          simp [g, hy]
      · have key : ∀ l : List AV, ((l.map g).filter fun x => (vwId (s.drop id) x).isSome).length ≤ (l.filter fun x => (vwId s x).isSome).length ∧ (.ls id 0 es.length ∈ l → ((l.map g).filter fun x => (vwId (s.drop id) x).isSome).length < (l.filter fun x => (vwId s x).isSome).length) := by
          intro l
          induction l with
          | nil => simp
          | cons a l ih2 =>
            obtain ⟨i1, i2⟩ := ih2
            by_cases ha : vwId s a = some id
            · have e1 : g a = .sl es := by simp [g, ha]
              have e2 : (vwId (s.drop id) (.sl es)).isSome = false := rfl
              have e3 : (vwId s a).isSome = true := by rw [ha]; rfl
              simp only [List.map_cons, e1, List.filter_cons, e2, e3, if_true, List.length_cons]
              simp only [Bool.false_eq_true, if_false]
              exact ⟨by omega, fun _ => by omega⟩
            · have e1 : g a = a := by simp [g, ha]
              have e2 := (vw1_drop a ha).2
              have e3 : .ls id 0 es.length ∈ a :: l → .ls id 0 es.length ∈ l := fun hm => by
                rcases List.mem_cons.1 hm with e | hm
                · rw [← e] at ha; exact absurd hid ha
                · exact hm
              simp only [List.map_cons, e1, List.filter_cons]
              by_cases h4 : (vwId (s.drop id) a).isSome = true
              · rw [if_pos h4, if_pos (e2 h4)]
                simp only [List.length_cons]
                exact ⟨by omega, fun hm => by have := i2 (e3 hm); omega⟩
              · rw [if_neg h4]
                split
                · simp only [List.length_cons]
                  exact ⟨by omega, fun hm => by have := i2 (e3 hm); omega⟩
                · exact ⟨i1, fun hm => i2 (e3 hm)⟩
        have := (key xs).2 hx
        unfold cntV at *
        omega
      · have he : (xs.map g).map (vw1 (s.drop id)) = xs.map (vw1 s) := by
          rw [List.map_map]
          refine List.map_congr_left fun a ha => ?_
          simp only [Function.comp_apply]
          by_cases hy : vwId s a = some id
          · obtain ⟨_, _, es2, h2, h3⟩ := vwId_some hy
            rw [hs] at h2
            cases h2
            have e1 : g a = .sl es := by simp [g, hy]
            rw [e1, h3, vw1_row hs]; rfl
          · have e1 : g a = a := by simp [g, hy]
            rw [e1, (vw1_drop a hy).1]
        rw [he]
        exact h
    · refine ih s xs ?_ h
      have : (xs.filter fun x => (vwId s x).isSome) = [] := List.filter_eq_nil_iff.2 fun x hx => by
        intro hsome
        obtain ⟨id, hid⟩ := Option.isSome_iff_exists.1 hsome
        exact h0 ⟨x, hx, id, hid⟩
      unfold cntV
      rw [this]; simp
/-- A function known at data, called with rows of one's own. -/
def Fns.addV (F : Fns) (f : FuncId) (p : List AV → Option AV) : Fns := F.add f fun xs s => match p (xs.map (vw1 s)) with
  | some r => if isScal r = true then some (r, s, []) else none
  | none => none
theorem FOk.addV {E : Env} {F : Fns} {f : FuncId} {p : List AV → Option AV} (h : FOk E F) (hp : ∀ xs s r, p xs = some r → FT E NoW f xs s r s) : FOk E (F.addV f p) :=
  h.add fun xs s r s' l he => by
    have hN : (fun id => id ∈ ([] : List Nat)) = NoW := by funext id; simp
    split at he
    · rename_i r0 hr
      split at he
      · rename_i hs
        cases he
        rw [hN]
        exact FT.vws hs _ s xs (Nat.le_refl _) fun s2 => hp _ s2 _ hr
      · cases he
    · cases he
end Go.Am
