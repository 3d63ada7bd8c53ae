/- Part of the proof: abstract values over the given model of Go (AmR, AmS, AmT, AmU, AmV, AmVB, AmW, AmX, AmXB, AmXC). Conditions: none of its own; see the statement in the seat's Rows text. -/
import Derived.Test.YtkhfjjgcafkihaaGreatAmTwo
set_option linter.unusedSimpArgs false
set_option linter.unusedVariables false
set_option linter.unusedSectionVars false
namespace Go.Am

/-- A frame: what its slots hold. -/
abbrev Slots := List (Nat × AV)
def Slots.get : Slots → Nat → AV
  | [], _ => .junk
  | (j, x) :: l, i => if i = j then x else Slots.get l i
def Slots.set (T : Slots) (i : Nat) (x : AV) : Slots := (i, x) :: T
def ev (E : Env) (T : Slots) : Operand → AV
  | .tmp t => T.get t
  | .const v => ofConst v
  | .func f => .fn (.func f) [] []
  | .global g => if (E.glob g).isEmpty then .junk else .rp (E.glob g)

def abinop (E : Env) (s : St) (op : BinOp) (t : TypeId) (cx cy : Bool) (a b : AV) : Option AV :=
  match a, b with
  | .int k m, .int k' n => match op with
    | .shl | .shr => ashift op k m n
    | _ => if k = k' then aint op k m n else none
  | .str p, .str q => astrop op p q
  | .nif, .nif => if cx || cy then (match op with
    | .eql | .neq => (aeq E s t a b).map fun r => .bool (eqres op r)
    | _ => none) else none
  | a, b => match op with
    | .eql | .neq => (aeq E s t a b).map fun r => .bool (eqres op r)
    | _ => none
def anilCheck (s : St) (x : AV) : Option AV :=
  match x with
  | .ptr id o => if s.live id then some (.ptr id o) else none
  | .rp cs => some (.rp cs)
  | .fn (.func f) a b => some (.fn (.func f) a b)
  | _ => none
def ainto : AV → Option Int
  | .int _ n => some n
  | _ => none
/-- A bound of a slice expression: none is none. -/
def abound (ρ : Operand → AV) : Option Operand → Option (Option Int)
  | none => some none
  | some x => match ρ x with
    | .int _ n => some (some n)
    | _ => none
def asliceOk (E : Env) (s : St) (t : TypeId) (y : AV) : Bool :=
  match E.ti t with
  | none => false
  | some x => match y with
    | .str _ => (match x.desc with | .string => true | _ => false)
    | .sl xs => (match x.desc with | .slice e => (match E.ti e with | some z => xs.all (fun q => q.length == z.size) | none => false) | _ => false)
    | .ls id _ _ => (match x.desc with | .slice e => (match E.ti e with | some z => (match s.get id with | some (.row sz _ _) => sz == z.size | _ => false) | none => false) | _ => false)
    | .nsl => (match x.desc with | .slice e => (E.ti e).isSome | _ => false)
    | _ => false
def alenOk (E : Env) (t : TypeId) (y : AV) : Bool :=
  match E.ti t with
  | none => false
  | some x => match y with
    | .str _ => (match x.desc with | .string => true | _ => false)
    | .nmap | .map _ => (match x.desc with | .map _ _ => true | _ => false)
    | _ => (match x.desc with | .slice _ => true | _ => false)
def aminmax (mx : Bool) : List AV → Option AV
  | [.int k a, .int _ b] => some (.int k (if mx then (if b > a then b else a) else (if b < a then b else a)))
  | _ => none

def isSS : TypeDesc → Bool
  | .slice _ | .string => true
  | _ => false
theorem isSS_spec {d : TypeDesc} (h : isSS d = true) : (∃ e, d = .slice e) ∨ d = .string := by
  cases d <;> simp [isSS] at h ⊢
def abuiltin (E : Env) (s : St) (b : Builtin) (ts : List TypeId) (xs : List AV) : Option (AV × St) :=
  match b, ts, xs with
  | .len, [t], [x] => if alenOk E t x then (alen s x).map fun (n : Nat) => (AV.int .i64 (n : Int), s) else none
  | .append, [t, u], [x, y] => match elemOfT E t, E.ti u, ard s y with
    | some z, some tu, some ys =>
      if z.zero.length = z.size ∧ z.bytes ≠ 0 ∧ isSS tu.desc = true ∧ (y.isStr = true → z.size = 1) then aappend s x ys (elemId E t) z.size z.bytes else none
    | _, _, _ => none
  | .copy, [t, _], [x, y] => match elemOfT E t, ard s y with
    | some z, some ys => if y.isStr = true → z.size = 1 then (acopy s x ys z.size).map fun (r : Nat × St) => (AV.int .i64 (r.1 : Int), r.2) else none
    | _, _ => none
  | .min, _, xs => (aminmax false xs).map (·, s)
  | .max, _, xs => (aminmax true xs).map (·, s)
  | .unsafeSliceData, _, [x] => (ausd s x).map (·, s)
  | .unsafeString, [pt, _], [x, .int _ n] => aus E pt s x n
  | .clear, [t], [x] => match elemOfT E t with
    | some z => (aclear s x (z.zero.map ofConst) z.size).map fun (r : St) => (AV.tup [], r)
    | none => none
  | _, _, _ => none

/-- Conversions. -/
def aconv (E : Env) (s : St) (a b : TypeId) (x : AV) : Option AV := match aconvert E s a b x with
  | some r => some r
  | none => acvp E s a b x
/-- A string's type. -/
def isStrD : TypeDesc → Bool
  | .string => true
  | _ => false
/-- A map's type. -/
def isMapD : TypeDesc → Bool
  | .map _ _ => true
  | _ => false
/-- What an operation comes to; calls of functions apart. -/
def aop (E : Env) (o : Op) (ρ : Operand → AV) (s : St) : Option (AV × St) :=
  match o with
  | .move x | .assign x => some (ρ x, s)
  | .pick c a b => match ρ c with
    | .bool t => some (if t then ρ a else ρ b, s)
    | _ => none
  | .alloc e => match E.ti e with
    | some x => some (.ptr s.nx 0, s.push (.var e (x.zero.map ofConst)))
    | none => none
  | .box e x => if (ρ x).fit then some (.ptr s.nx 0, s.push (.var e (ρ x).cells)) else none
  | .build t ps => (abuild E t (ps.toList.map fun p => (p.1, ρ p.2))).map (·, s)
  | .buildSlice t n ps => abuildSlice E s t n (ps.toList.map fun p => (p.1, ρ p.2))
  | .load t a => match E.ti t with
    | some x => match aload s (ρ a) x.size with
      | some cs => (ofCells x.agg cs).map (·, s)
      | none => none
    | none => none
  | .store t a v => match E.ti t with
    | some x => if (ρ v).fit ∧ (ρ v).cells.length = x.size then (astore s (ρ a) (ρ v).cells).map (.junk, ·) else none
    | none => none
  | .nilCheck x => (anilCheck s (ρ x)).map (·, s)
  | .binOp op t x y _ => (abinop E s op t (isConst x) (isConst y) (ρ x) (ρ y)).map (·, s)
  | .unOp op _ x => (aunop op (ρ x)).map (·, s)
  | .convert a b x => (aconv E s a b (ρ x)).map (·, s)
  | .makeFunc f a b => some (.fn f (a.toList.map ρ) (b.toList.map ρ), s)
  | .makeSlice t l c => match ρ l, ρ c with
    | .int _ m, .int _ n => amake E s t m n
    | _, _ => none
  | .slice t x lo hi none => match abound ρ lo, abound ρ hi with
    | some l, some h => if asliceOk E s t (ρ x) then (aslice s (ρ x) l h).map (·, s) else none
    | _, _ => none
  | .fieldAddr t x f => match fieldOf E t f with
    | some (off, y) => if y.size ≠ 0 then (afieldAddr s (ρ x) off).map (·, s) else none
    | none => none
  | .field t x f => (afield E t (ρ x) f).map (·, s)
  | .indexAddr t x i => match ρ i with
    | .int _ n => match elemOfT E t with
      | some y => (aindex s (ρ x) n y.size).map (·, s)
      | none => match arrOfT E t with
        | some (m, y) => (aindexArr s (ρ x) n m y.size).map (·, s)
        | none => none
    | _ => none
  | .index t x i => match ρ i with
    | .int _ n => match E.ti t with
      | some tx => if (ρ x).isStr = true → isStrD tx.desc = true then (aidx E t (ρ x) n).map (·, s) else none
      | none => none
    | _ => none
  | .extract x i => (aextract (ρ x) i).map (·, s)
  | .range t x => arange E s t (ρ x)
  | .makeMap t r => match r with
    | none => some (amake0 s)
    | some x => match E.ti t, ρ x with
      | some tx, .int _ _ => if isMapD tx.desc = true then some (amake0 s) else none
      | _, _ => none
  | .lookup t x i ok => (alookup E s t (ρ x) (ρ i) ok).map (·, s)
  | .mapUpdate t m k v | .insert t m k v => (amapup E s t (ρ m) (ρ k) (ρ v)).map (.junk, ·)
  | .next i b => if b = true then anext s (ρ i) else none
  | .call c => match c.callee with
    | .builtin b => abuiltin E s b c.argTypes.toList (c.args.toList.map ρ)
    | _ => none
  | _ => none
/-- What it writes. -/
def awr (o : Op) (ρ : Operand → AV) : AV :=
  match o with
  | .store _ a _ => ρ a
  | .mapUpdate _ m _ _ | .insert _ m _ _ => ρ m
  | .next i _ => ρ i
  | .call c => match c.callee with
    | .builtin .append | .builtin .copy | .builtin .unsafeString | .builtin .clear => (c.args.toList.map ρ).headD .junk
    | _ => .junk
  | _ => .junk
end Go.Am
namespace Go.Am
section
variable {E : Env} {n0 : Nat} {W : Nat → Prop} {μ μ' : Mu} {s s' : St} {w w' : World}

/-- An operation's result that stands for an abstract one. -/
def OpR (E : Env) (n0 : Nat) (W : Nat → Prop) (μ : Mu) (s : St) (w : World) (R : Result Next) (r : AV) (s' : St) : Prop :=
  ∃ v w' μ', (R = .ok (.value v) w' ∨ (R = .ok .skip w' ∧ v = undef)) ∧ VR μ' s' w' r v ∧ Rel E μ' s' w' ∧ Fr n0 W μ s w μ' s' w'

theorem Yld.opr {X : Sem Value} {r : AV} (h : Yld E n0 W μ s w (X.run E.P w) r s') : OpR E n0 W μ s w ((do Pure.pure (.value (← X)) : Sem Next).run E.P w) r s' := by
  obtain ⟨v, w', μ', h1, h2⟩ := h
  exact ⟨v, w', μ', .inl (by simp only [Sem.run_bind, h1, Result.andThen_ok, Sem.run_pure]), h2⟩

theorem OpR.pure (hR : Rel E μ s w) {v : Value} {r : AV} (h : VR μ s w r v) : OpR E n0 W μ s w ((Pure.pure (.value v) : Sem Next).run E.P w) r s :=
  ⟨v, w, μ, .inl rfl, h, hR, hR.refl⟩

theorem map_some_pair {α β : Type} {o : Option α} {f : α → β} {b : β} (h : o.map f = some b) : ∃ a, o = some a ∧ f a = b := by
  cases o with
  | none => cases h
  | some a => exact ⟨a, rfl, by simpa using h⟩

theorem eqcase (hR : Rel E μ s w) {op : BinOp} {t : TypeId} {x y : Operand} {a b r : AV} {va vb : Value} (hc : a = .nif → b = .nif → isConst x = true ∨ isConst y = true) (hop : op = .eql ∨ op = .neq)
    (h : ((aeq E s t a b).map fun r => AV.bool (eqres op r)) = some r) (ha : VR μ s w a va) (hb : VR μ s w b vb) : Yld E n0 W μ s w ((do eqGuard op t x y va vb; binOp op t va vb : Sem Value).run E.P w) r s := by
  obtain ⟨r0, h0, rfl⟩ := map_some_pair h
  rw [eq_sound hop hc h0 ha hb]
  exact Yld.pure hR (.bool _)

theorem abinop_sound (hR : Rel E μ s w) {op : BinOp} {t : TypeId} {x y : Operand} {a b r : AV} {va vb : Value} (h : abinop E s op t (isConst x) (isConst y) a b = some r) (ha : VR μ s w a va) (hb : VR μ s w b vb) :
    Yld E n0 W μ s w ((do eqGuard op t x y va vb; binOp op t va vb : Sem Value).run E.P w) r s := by
  unfold abinop at h
  split at h
  · -- numbers
    rename_i k m k' n
    cases ha; cases hb
    have hg : ∀ op, (eqGuard op t x y (.int k m) (.int k' n)).run E.P w = .ok () w := fun op => by cases op <;> simp [eqGuard]
    have fin : ∀ (v : Value), (binOp op t (.int k m) (.int k' n)).run E.P w = .ok v w → VR μ s w r v → Yld E n0 W μ s w ((do eqGuard op t x y (.int k m) (.int k' n); binOp op t (.int k m) (.int k' n) : Sem Value).run E.P w) r s := fun v h1 h2 => by
      simp only [Sem.run_bind, hg, Result.andThen_ok, h1]
      exact Yld.pure hR h2
    split at h
    · obtain ⟨v, h1, h2⟩ := ashift_sound (E := E) (μ := μ) (s := s) (w := w) (k' := k') h t
      exact fin v h1 h2
    · obtain ⟨v, h1, h2⟩ := ashift_sound (E := E) (μ := μ) (s := s) (w := w) (k' := k') h t
      exact fin v h1 h2
    · split at h
      · rename_i hk
        subst hk
        obtain ⟨v, h1, h2⟩ := aint_sound (E := E) (μ := μ) (s := s) (w := w) h t
        exact fin v h1 h2
      · cases h
  · cases ha; cases hb
    rename_i p q
    obtain ⟨v, h1, h2⟩ := astrop_sound (E := E) (μ := μ) (s := s) (w := w) (a := p) (b := q) h t
    have hg : ∀ op, (eqGuard op t x y (.string p) (.string q)).run E.P w = .ok () w := fun op => by cases op <;> simp [eqGuard]
    simp only [Sem.run_bind, hg, Result.andThen_ok, h1]
    exact Yld.pure hR h2
  · split at h
    · rename_i hcc
      have hc2 : isConst x = true ∨ isConst y = true := by simpa using hcc
      split at h
      · exact eqcase hR (fun _ _ => hc2) (.inl rfl) h ha hb
      · exact eqcase hR (fun _ _ => hc2) (.inr rfl) h ha hb
      · cases h
    · cases h
  · rename_i hn1 hn2 hn3
    split at h
    · exact eqcase hR (fun h1 h2 => absurd h2 (hn3 h1)) (.inl rfl) h ha hb
    · exact eqcase hR (fun h1 h2 => absurd h2 (hn3 h1)) (.inr rfl) h ha hb
    · cases h

theorem anilCheck_sound {a r : AV} {x : Operand} {σ : Operand → Value} {dst : Option Tmp} {type : TypeId} {pos : String} {after : Array Edge} {guard : Option (Nat × Bool)} (h : anilCheck s a = some r) (hv : VR μ s w a (σ x)) :
    r = a ∧ (execOp σ { dst, op := .nilCheck x, type, pos, after, guard }).run E.P w = .ok (.value (σ x)) w := by
  unfold anilCheck at h
  simp only [execOp]
  generalize σ x = v at hv
  split at h
  · split at h
    · rename_i hl
      obtain rfl := Option.some.inj h
      cases hv with
      | ptr _ _ _ _ hn hp =>
      obtain ⟨o, ho⟩ := St.live_some hl
      obtain ⟨p, hq, rfl⟩ := hp o ho
      exact ⟨rfl, rfl⟩
    · cases h
  · obtain rfl := Option.some.inj h
    cases hv
    exact ⟨rfl, rfl⟩
  · obtain rfl := Option.some.inj h
    cases hv
    exact ⟨rfl, rfl⟩
  · cases h

theorem abound_sound {ρ : Operand → AV} {σ : Operand → Value} {x : Option Operand} {i : Option Int} (hx : ∀ y, x = some y → VR μ s w (ρ y) (σ y)) (h : abound ρ x = some i) : VInt (x.map σ) i := by
  unfold abound at h
  split at h
  · obtain rfl := Option.some.inj h
    trivial
  · rename_i y
    split at h
    · rename_i k n hn
      obtain rfl := Option.some.inj h
      have := hx y rfl
      rw [hn] at this
      generalize hs : σ y = v at this
      cases this
      simp [VInt, hs]
    · cases h

theorem VRsOf {ρ : Operand → AV} {σ : Operand → Value} {xs : Array Operand} (hx : ∀ y ∈ xs, VR μ s w (ρ y) (σ y)) : VRs μ s w (xs.toList.map ρ) (xs.map σ) := by
  refine ⟨by simp, fun i a b ha hb => ?_⟩
  simp only [List.getElem?_map, Array.getElem?_map, Array.getElem?_toList] at ha hb
  cases hg : xs[i]? with
  | none => simp [hg] at ha
  | some y =>
    simp only [hg, Option.map_some, Option.some.injEq] at ha hb
    subst ha; subst hb
    exact hx y (Array.mem_of_getElem? hg)
end
end Go.Am
namespace Go.Am
section
variable {E : Env} {n0 : Nat} {W : Nat → Prop} {μ μ' : Mu} {s s' : St} {w w' : World}

theorem partsOf {ρ : Operand → AV} {σ : Operand → Value} {ps : Array (Nat × Operand)} (hx : ∀ y ∈ (ps.toList.map (·.2)).toArray, VR μ s w (ρ y) (σ y)) :
    (ps.toList.map fun p => (p.1, ρ p.2)).length = (ps.map fun p => (p.1, σ p.2)).size ∧
    ∀ (i : Nat) (a : Nat × AV) (b : Nat × Value), (ps.toList.map fun p => (p.1, ρ p.2))[i]? = some a → (ps.map fun p => (p.1, σ p.2))[i]? = some b → a.1 = b.1 ∧ VR μ s w a.2 b.2 := by
  refine ⟨by simp, fun i a b ha hb => ?_⟩
  simp only [List.getElem?_map, Array.getElem?_map, Array.getElem?_toList] at ha hb
  cases hg : ps[i]? with
  | none => simp [hg] at ha
  | some y =>
    simp only [hg, Option.map_some, Option.some.injEq] at ha hb
    subst ha; subst hb
    refine ⟨rfl, hx y.2 ?_⟩
    have := Array.mem_of_getElem? hg
    simp only [List.mem_toArray, List.mem_map, Array.mem_toList_iff]
    exact ⟨y, this, rfl⟩

theorem abuiltin_sound (hR : Rel E μ s w) {b : Builtin} {ts : Array TypeId} {ty : TypeId} {cs : Array Bool} {xs : List AV} {vs : Array Value} {r : AV} (h : abuiltin E s b ts.toList xs = some (r, s'))
    (hm : (match b with | .append | .copy | .unsafeString | .clear => xs.headD .junk | _ => .junk).may n0 W) (hv : VRs μ s w xs vs) : OpR E n0 W μ s w ((builtin b ts ty cs vs).run E.P w) r s' := by
  unfold abuiltin at h
  split at h
  · rename_i t x hts
    obtain rfl : ts = #[t] := by rw [← Array.toList_inj]; exact hts
    have hvs1 : vs.size = 1 := by rw [← hv.1]; rfl
    obtain ⟨v, rfl⟩ : ∃ v, vs = #[v] := ⟨vs[0], Array.ext (by simpa using hvs1) (fun i h1 h2 => by simp at h2; subst h2; rfl)⟩
    have hx := hv.2 0 x v rfl rfl
    split at h
    · rename_i hok
      obtain ⟨n, hn, h⟩ := map_some_pair h
      simp only [Prod.mk.injEq] at h
      obtain ⟨rfl, rfl⟩ := h
      unfold alenOk at hok
      split at hok
      · cases hok
      · rename_i tx htx
        refine Yld.opr (X := Builtin.len_ #[t] ty #[v]) (len_sound hR htx ?_ ?_ ?_ hn hx)
        · rintro ⟨b, rfl⟩
          simp only at hok
          split at hok <;> first | assumption | cases hok
        · rintro (rfl | ⟨id, rfl⟩) <;> (simp only at hok; split at hok <;> first | exact ⟨_, _, by assumption⟩ | cases hok)
        · intro h1 h2
          cases x with
          | str b => exact absurd ⟨b, rfl⟩ h1
          | nmap => exact absurd (.inl rfl) h2
          | map id => exact absurd (.inr ⟨id, rfl⟩) h2
          | _ => simp only at hok; split at hok <;> first | exact ⟨_, by assumption⟩ | cases hok
    · cases h
  · rename_i t u x y hts
    obtain rfl : ts = #[t, u] := by rw [← Array.toList_inj]; exact hts
    have hvs1 : vs.size = 2 := by rw [← hv.1]; rfl
    obtain ⟨v, v2, rfl⟩ : ∃ v v2, vs = #[v, v2] := ⟨vs[0], vs[1], Array.ext (by simpa using hvs1) (fun i h1 h2 => by
      simp at h2
      match i, h2 with
      | 0, _ => rfl
      | 1, _ => rfl)⟩
    have hx := hv.2 0 x v rfl rfl
    have hy := hv.2 1 y v2 rfl rfl
    split at h
    · rename_i z tu ys hz hu hys
      split at h
      · rename_i hc
        obtain ⟨tx, e, htx, hde, hte⟩ := elemOfT_parts hz
        rw [elemId_eq htx hde] at h
        refine Yld.opr (X := Builtin.append_ #[t, u] ty #[v, v2]) (append_sound hR htx hde hte hu ?_ hc.1 hys ?_ hc.2.1 h hm hx hy)
        · exact isSS_spec hc.2.2.1
        · rintro ⟨b, rfl⟩
          exact hc.2.2.2 rfl
      · cases h
    · cases h
  · rename_i t u x y hts
    obtain rfl : ts = #[t, u] := by rw [← Array.toList_inj]; exact hts
    have hvs1 : vs.size = 2 := by rw [← hv.1]; rfl
    obtain ⟨v, v2, rfl⟩ : ∃ v v2, vs = #[v, v2] := ⟨vs[0], vs[1], Array.ext (by simpa using hvs1) (fun i h1 h2 => by
      simp at h2
      match i, h2 with
      | 0, _ => rfl
      | 1, _ => rfl)⟩
    have hx := hv.2 0 x v rfl rfl
    have hy := hv.2 1 y v2 rfl rfl
    split at h
    · rename_i z ys hz hys
      split at h
      · rename_i hc
        obtain ⟨⟨n, s1⟩, hn, h⟩ := map_some_pair h
        simp only [Prod.mk.injEq] at h
        obtain ⟨rfl, rfl⟩ := h
        refine Yld.opr (X := Builtin.copy_ #[t, u] ty #[v, v2]) (copy_sound hR hz hys ?_ hn hm hx hy)
        rintro ⟨b, rfl⟩
        exact hc rfl
      · cases h
    · cases h
  · obtain ⟨r0, h0, h⟩ := map_some_pair h
    simp only [Prod.mk.injEq] at h
    obtain ⟨rfl, rfl⟩ := h
    unfold aminmax at h0
    split at h0
    · rename_i k a k' b
      obtain rfl := Option.some.inj h0
      have hvs1 : vs.size = 2 := by rw [← hv.1]; rfl
      obtain ⟨v, v2, rfl⟩ : ∃ v v2, vs = #[v, v2] := ⟨vs[0], vs[1], Array.ext (by simpa using hvs1) (fun i h1 h2 => by
        simp at h2
        match i, h2 with
        | 0, _ => rfl
        | 1, _ => rfl)⟩
      have hx := hv.2 0 _ v rfl rfl
      have hy := hv.2 1 _ v2 rfl rfl
      cases hx; cases hy
      refine Yld.opr (X := Builtin.min_ ts ty _) ?_
      have : (Builtin.min_ ts ty #[.int k a, .int k' b]).run E.P w = .ok (.int k (if b < a then b else a)) w := by simp [Builtin.min_, Builtin.min2]
      rw [this]
      exact Yld.pure hR (.int _ _)
    · cases h0
  · obtain ⟨r0, h0, h⟩ := map_some_pair h
    simp only [Prod.mk.injEq] at h
    obtain ⟨rfl, rfl⟩ := h
    unfold aminmax at h0
    split at h0
    · rename_i k a k' b
      obtain rfl := Option.some.inj h0
      have hvs1 : vs.size = 2 := by rw [← hv.1]; rfl
      obtain ⟨v, v2, rfl⟩ : ∃ v v2, vs = #[v, v2] := ⟨vs[0], vs[1], Array.ext (by simpa using hvs1) (fun i h1 h2 => by
        simp at h2
        match i, h2 with
        | 0, _ => rfl
        | 1, _ => rfl)⟩
      have hx := hv.2 0 _ v rfl rfl
      have hy := hv.2 1 _ v2 rfl rfl
      cases hx; cases hy
      refine Yld.opr (X := Builtin.max_ ts ty _) ?_
      have : (Builtin.max_ ts ty #[.int k a, .int k' b]).run E.P w = .ok (.int k (if b > a then b else a)) w := by simp [Builtin.max_, Builtin.max2]
      rw [this]
      exact Yld.pure hR (.int _ _)
    · cases h0
  · rename_i x
    obtain ⟨r0, h0, h⟩ := map_some_pair h
    simp only [Prod.mk.injEq] at h
    obtain ⟨rfl, rfl⟩ := h
    have hvs1 : vs.size = 1 := by rw [← hv.1]; rfl
    obtain ⟨v, rfl⟩ : ∃ v, vs = #[v] := ⟨vs[0], Array.ext (by simpa using hvs1) (fun i h1 h2 => by simp at h2; subst h2; rfl)⟩
    exact Yld.opr (X := Builtin.unsafeSliceData_ ts ty #[v]) (ausd_sound hR ts ty h0 (hv.2 0 x v rfl rfl))
  · rename_i pt it x k n hts
    obtain rfl : ts = #[pt, it] := by rw [← Array.toList_inj]; exact hts
    have hvs1 : vs.size = 2 := by rw [← hv.1]; rfl
    obtain ⟨v, v2, rfl⟩ : ∃ v v2, vs = #[v, v2] := ⟨vs[0], vs[1], Array.ext (by simpa using hvs1) (fun i h1 h2 => by
      simp at h2
      match i, h2 with
      | 0, _ => rfl
      | 1, _ => rfl)⟩
    have hx := hv.2 0 _ v rfl rfl
    have hy := hv.2 1 _ v2 rfl rfl
    cases hy
    exact Yld.opr (X := Builtin.unsafeString_ #[pt, it] ty #[v, _]) (aus_sound hR h hm hx)
  · rename_i t x hts
    obtain rfl : ts = #[t] := by rw [← Array.toList_inj]; exact hts
    have hvs1 : vs.size = 1 := by rw [← hv.1]; rfl
    obtain ⟨v, rfl⟩ : ∃ v, vs = #[v] := ⟨vs[0], Array.ext (by simpa using hvs1) (fun i h1 h2 => by simp at h2; subst h2; rfl)⟩
    have hx := hv.2 0 x v rfl rfl
    split at h
    · rename_i z hz
      obtain ⟨s1, h1, h⟩ := map_some_pair h
      simp only [Prod.mk.injEq] at h
      obtain ⟨rfl, rfl⟩ := h
      exact Yld.opr (X := Builtin.clear_ #[t] ty #[v]) (clear_sound hR hz h1 hm hx)
    · cases h
  · cases h
end
end Go.Am
namespace Go.Am
section
variable {E : Env} {n0 : Nat} {W : Nat → Prop} {μ μ' : Mu} {s s' : St} {w w' : World}

theorem pairEq {α β : Type} {a a' : α} {b b' : β} (h : (a, b) = (a', b')) : a = a' ∧ b = b' := by
  cases h; exact ⟨rfl, rfl⟩

/-- An operation does what aop says. -/
theorem aop_sound (hR : Rel E μ s w) {o : Oper} {ρ : Operand → AV} {σ : Operand → Value} {r : AV} (h : aop E o.op ρ s = some (r, s')) (hm : (awr o.op ρ).may n0 W)
    (hx : ∀ x ∈ o.op.operands, VR μ s w (ρ x) (σ x)) : OpR E n0 W μ s w ((execOp σ o).run E.P w) r s' := by
  obtain ⟨dst, op, type, pos, after, guard⟩ := o
  simp only at h hm hx ⊢
  cases op <;> simp only [aop] at h <;> (try (cases h; done))
  case move x =>
    obtain ⟨rfl, rfl⟩ := pairEq (Option.some.inj h)
    exact OpR.pure hR (hx x (by simp [Op.operands]))
  case assign x =>
    obtain ⟨rfl, rfl⟩ := pairEq (Option.some.inj h)
    exact OpR.pure hR (hx x (by simp [Op.operands]))
  case pick c a b =>
    have h1 := hx c (by simp [Op.operands])
    have h2 := hx a (by simp [Op.operands])
    have h3 := hx b (by simp [Op.operands])
    split at h
    · rename_i t ht
      obtain ⟨rfl, rfl⟩ := pairEq (Option.some.inj h)
      rw [ht] at h1
      generalize hs : σ c = v at h1
      cases h1
      have : (execOp σ { dst, op := .pick c a b, type, pos, after, guard }).run E.P w = .ok (.value (if t then σ a else σ b)) w := by
        simp [execOp, hs, asBool]
      rw [this]
      refine OpR.pure hR ?_
      cases t
      · exact h3
      · exact h2
    · cases h
  case alloc e =>
    split at h
    · rename_i x hx'
      obtain ⟨rfl, rfl⟩ := pairEq (Option.some.inj h)
      exact Yld.opr (alloc_sound hR hx')
    · cases h
  case box e x =>
    split at h
    · rename_i hf
      obtain ⟨rfl, rfl⟩ := pairEq (Option.some.inj h)
      exact Yld.opr (box_sound hR e hf (hx x (by simp [Op.operands])))
    · cases h
  case build t ps =>
    obtain ⟨r0, h0, h⟩ := map_some_pair h
    obtain ⟨rfl, rfl⟩ := pairEq h
    obtain ⟨h1, h2⟩ := partsOf (μ := μ) (s := s) (w := w) (ρ := ρ) (σ := σ) (ps := ps) hx
    exact Yld.opr (build_sound hR h0 h1 h2)
  case buildSlice t n ps =>
    obtain ⟨h1, h2⟩ := partsOf (μ := μ) (s := s) (w := w) (ρ := ρ) (σ := σ) (ps := ps) hx
    exact Yld.opr (buildSlice_sound hR h h1 h2)
  case load t a =>
    split at h
    · rename_i x hx'
      split at h
      · rename_i cs hcs
        obtain ⟨r0, h0, h⟩ := map_some_pair h
        obtain ⟨rfl, rfl⟩ := pairEq h
        exact Yld.opr (load_sound hR hx' hcs h0 (hx a (by simp [Op.operands])))
      · cases h
    · cases h
  case store t a v =>
    split at h
    · rename_i x hx'
      split at h
      · rename_i hc
        obtain ⟨s1, h0, h⟩ := map_some_pair h
        obtain ⟨rfl, rfl⟩ := pairEq h
        obtain ⟨w', h1, h2, h3⟩ := store_sound (n0 := n0) (W := W) hR hx' hc.1 hc.2 h0 hm (hx a (by simp [Op.operands])) (hx v (by simp [Op.operands]))
        refine ⟨undef, w', μ, .inr ⟨?_, rfl⟩, .junk _, h2, h3⟩
        simp only [execOp, Sem.run_bind, h1, Result.andThen_ok, Sem.run_pure]
      · cases h
    · cases h
  case nilCheck x =>
    obtain ⟨r0, h0, h⟩ := map_some_pair h
    obtain ⟨rfl, rfl⟩ := pairEq h
    have hv := hx x (by simp [Op.operands])
    obtain ⟨rfl, h1⟩ := anilCheck_sound h0 hv
    exact ⟨σ x, w, μ, .inl h1, hv, hR, hR.refl⟩
  case binOp op t x y yt =>
    obtain ⟨r0, h0, h⟩ := map_some_pair h
    obtain ⟨rfl, rfl⟩ := pairEq h
    exact Yld.opr (abinop_sound hR h0 (hx x (by simp [Op.operands])) (hx y (by simp [Op.operands])))
  case unOp op t x =>
    obtain ⟨r0, h0, h⟩ := map_some_pair h
    obtain ⟨rfl, rfl⟩ := pairEq h
    exact Yld.opr (unop_sound hR h0 (hx x (by simp [Op.operands])))
  case convert a b x =>
    obtain ⟨r0, h0, h⟩ := map_some_pair h
    obtain ⟨rfl, rfl⟩ := pairEq h
    unfold aconv at h0
    split at h0
    · rename_i r1 h1
      obtain rfl := Option.some.inj h0
      exact Yld.opr (convert_sound hR h1 (hx x (by simp [Op.operands])))
    · exact Yld.opr (acvp_sound hR h0 (hx x (by simp [Op.operands])))
  case makeFunc f a b =>
    obtain ⟨rfl, rfl⟩ := pairEq (Option.some.inj h)
    have h1 := VRsOf (μ := μ) (s := s) (w := w) (ρ := ρ) (σ := σ) (xs := a) (fun y hy => hx y (by simp [Op.operands, hy]))
    have h2 := VRsOf (μ := μ) (s := s) (w := w) (ρ := ρ) (σ := σ) (xs := b) (fun y hy => hx y (by simp [Op.operands, hy]))
    exact OpR.pure hR (.fn f _ _ _ _ h1.1 h2.1 h1.2 h2.2)
  case makeSlice t l c =>
    split at h
    · rename_i k m k' n hl hc
      have h1 := hx l (by simp [Op.operands])
      have h2 := hx c (by simp [Op.operands])
      rw [hl] at h1
      rw [hc] at h2
      refine Yld.opr (X := Instr.makeSlice t (σ l) (σ c)) ?_
      generalize σ l = v1 at h1
      generalize σ c = v2 at h2
      cases h1; cases h2
      exact make_sound hR h
    · cases h
  case slice t x lo hi mx =>
    cases mx with
    | some m => cases h
    | none =>
      simp only at h
      split at h
      · rename_i l hh hl hhi
        split at h
        · rename_i hok
          obtain ⟨r0, h0, h⟩ := map_some_pair h
          obtain ⟨rfl, rfl⟩ := pairEq h
          have hv := hx x (by simp [Op.operands])
          have b1 := abound_sound (σ := σ) (x := lo) (fun y hy => hx y (by simp [Op.operands, hy])) hl
          have b2 := abound_sound (σ := σ) (x := hi) (fun y hy => hx y (by simp [Op.operands, hy])) hhi
          unfold asliceOk at hok
          split at hok
          · cases hok
          · rename_i tx htx
            refine Yld.opr (X := Instr.sliceAt t (σ x) (lo.map σ) (hi.map σ) none) (slice_sound hR htx b1 b2 ?_ ?_ ?_ h0 hv)
            · rintro ⟨b, hb⟩
              rw [hb] at hok
              simp only at hok
              split at hok <;> first | assumption | cases hok
            · intro hns
              split at hok
              · rename_i b hb; exact absurd ⟨b, hb⟩ hns
              · split at hok
                · split at hok
                  · exact ⟨_, by assumption, by simp [*]⟩
                  · cases hok
                · cases hok
              · split at hok
                · split at hok
                  · exact ⟨_, by assumption, by simp [*]⟩
                  · cases hok
                · cases hok
              · split at hok
                · exact ⟨_, by assumption, hok⟩
                · cases hok
              · cases hok
            · intro e z hd hz
              constructor
              · intro xs hxs q hq
                rw [hxs] at hok
                simp only [hd, hz] at hok
                have := List.all_eq_true.1 hok q hq
                simpa using this
              · intro id off len sz wr es hls hg
                rw [hls] at hok
                simp only [hd, hz, hg] at hok
                simpa using hok
        · cases h
      · cases h
  case fieldAddr t x f =>
    split at h
    · rename_i off y hf
      split at h
      · rename_i hy
        obtain ⟨r0, h0, h⟩ := map_some_pair h
        obtain ⟨rfl, rfl⟩ := pairEq h
        exact Yld.opr (fieldAddr_sound hR hf hy h0 (hx x (by simp [Op.operands])))
      · cases h
    · cases h
  case field t x f =>
    obtain ⟨r0, h0, h⟩ := map_some_pair h
    obtain ⟨rfl, rfl⟩ := pairEq h
    exact Yld.opr (field_sound hR h0 (hx x (by simp [Op.operands])))
  case indexAddr t x i =>
    split at h
    · rename_i k n hi
      have h1 := hx i (by simp [Op.operands])
      rw [hi] at h1
      have hv := hx x (by simp [Op.operands])
      refine Yld.opr (X := Instr.indexAt t (σ x) (σ i)) ?_
      generalize σ i = v1 at h1
      cases h1
      split at h
      · rename_i y hy
        obtain ⟨r0, h0, h⟩ := map_some_pair h
        obtain ⟨rfl, rfl⟩ := pairEq h
        exact index_sound hR hy h0 hv
      · split at h
        · rename_i m y hy
          obtain ⟨r0, h0, h⟩ := map_some_pair h
          obtain ⟨rfl, rfl⟩ := pairEq h
          exact indexArr_sound hR hy h0 hv
        · cases h
    · cases h
  case index t x i =>
    split at h
    · rename_i k n hi
      have h1 := hx i (by simp [Op.operands])
      rw [hi] at h1
      have hv := hx x (by simp [Op.operands])
      refine Yld.opr (X := Instr.index t (σ x) (σ i)) ?_
      generalize σ i = v1 at h1
      cases h1
      split at h
      · rename_i tx htx
        split at h
        · rename_i hc
          obtain ⟨r0, h0, h⟩ := map_some_pair h
          obtain ⟨rfl, rfl⟩ := pairEq h
          refine idx_sound hR htx ?_ h0 hv
          rintro ⟨b, hb⟩
          have := hc (by rw [hb]; rfl)
          unfold isStrD at this
          split at this <;> first | assumption | cases this
        · cases h
      · cases h
    · cases h
  case range t x =>
    exact Yld.opr (range_sound hR h (hx x (by simp [Op.operands])))
  case next i b =>
    split at h
    · rename_i hb
      subst hb
      exact Yld.opr (next_sound hR h hm (hx i (by simp [Op.operands])))
    · cases h
  case makeMap t q =>
    cases q with
    | none =>
      obtain ⟨rfl, rfl⟩ := pairEq (Option.some.inj h)
      exact Yld.opr (make0_sound hR (.inl rfl))
    | some x =>
      simp only at h
      split at h
      · rename_i tx k n htx hi
        split at h
        · rename_i hd
          obtain ⟨rfl, rfl⟩ := pairEq (Option.some.inj h)
          have h1 := hx x (by simp [Op.operands])
          rw [hi] at h1
          generalize hs : σ x = v at h1
          cases h1
          refine Yld.opr (X := Instr.makeMap t (some (σ x))) (make0_sound hR (.inr ⟨tx, htx, ?_, _, _, by rw [hs]⟩))
          unfold isMapD at hd
          split at hd
          · exact ⟨_, _, by assumption⟩
          · cases hd
        · cases h
      · cases h
  case lookup t x i ok =>
    obtain ⟨r0, h0, h⟩ := map_some_pair h
    obtain ⟨rfl, rfl⟩ := pairEq h
    exact Yld.opr (lookup_sound hR h0 (hx x (by simp [Op.operands])) (hx i (by simp [Op.operands])))
  case mapUpdate t m k v =>
    obtain ⟨s1, h0, h⟩ := map_some_pair h
    obtain ⟨rfl, rfl⟩ := pairEq h
    obtain ⟨w', h1, h2, h3⟩ := mapup_sound (n0 := n0) (W := W) hR h0 hm (hx m (by simp [Op.operands])) (hx k (by simp [Op.operands])) (hx v (by simp [Op.operands]))
    refine ⟨undef, w', μ, .inr ⟨?_, rfl⟩, .junk _, h2, h3⟩
    simp only [execOp, Sem.run_bind, h1, Result.andThen_ok, Sem.run_pure]
  case insert t m k v =>
    obtain ⟨s1, h0, h⟩ := map_some_pair h
    obtain ⟨rfl, rfl⟩ := pairEq h
    obtain ⟨w', h1, h2, h3⟩ := mapup_sound (n0 := n0) (W := W) hR h0 hm (hx m (by simp [Op.operands])) (hx k (by simp [Op.operands])) (hx v (by simp [Op.operands]))
    refine ⟨undef, w', μ, .inr ⟨?_, rfl⟩, .junk _, h2, h3⟩
    simp only [execOp, Sem.run_bind, h1, Result.andThen_ok, Sem.run_pure]
  case extract x i =>
    obtain ⟨r0, h0, h⟩ := map_some_pair h
    obtain ⟨rfl, rfl⟩ := pairEq h
    exact Yld.opr (extract_sound hR h0 (hx x (by simp [Op.operands])))
  case call c =>
    obtain ⟨callee, args, ats⟩ := c
    simp only at h hm
    split at h
    · rename_i b
      have hv := VRsOf (μ := μ) (s := s) (w := w) (ρ := ρ) (σ := σ) (xs := args) (fun y hy => hx y (by simp [Op.operands, Call.operands, hy]))
      have := fun cs => abuiltin_sound (n0 := n0) (W := W) (ty := type) (cs := cs) hR h (by
        simp only [awr] at hm
        cases b <;> first | exact hm | trivial) hv
      simp only [execOp, resolve, invoke, pure_bind, map_pure, Functor.map]
      exact this _
    · cases h
end
end Go.Am
namespace Go.Am

/-- The call that is walked: its program, which objects it may write, its slots, and where it began. -/
structure Cx where
  E : Env
  n0 : Nat
  W : Nat → Prop
  nt : Nat
  μ : Mu
  s : St
  w : World

def TR (nt : Nat) (μ : Mu) (s : St) (w : World) (T : Slots) (tmps : Array Value) : Prop :=
  tmps.size = nt ∧ ∀ i, VR μ s w (T.get i) (tmps.getD i undef)

structure At (C : Cx) (T : Slots) (s : St) (a : Act) (w : World) (μ : Mu) : Prop where
  rel : Rel C.E μ s w
  tr : TR C.nt μ s w T a.tmps
  de : a.defers = []
  fr : Fr C.n0 C.W C.μ C.s C.w μ s w

def Post (C : Cx) (Q : Exit → Slots → St → Prop) : Exit → Act → World → Prop :=
  fun e a w => ∃ μ T s, At C T s a w μ ∧ Q e T s

def CT (C : Cx) (c : Code) (Q : Exit → Slots → St → Prop) (T : Slots) (s : St) : Prop :=
  ∀ μ w a, At C T s a w μ → c.wp C.E.P (Post C Q) a w

/-- A program's function that has a body. -/
def FnOk (P : Program) (f : FuncId) : Prop := ∃ fn, P.funcs[f]? = some fn ∧ (fn.name == "runtime.NumGoroutine") = false ∧ fn.body.isNone = false

/-- What a function's call does. -/
def FT (E : Env) (W : Nat → Prop) (f : FuncId) (args : List AV) (s : St) (r : AV) (s' : St) : Prop :=
  FnOk E.P f ∧ ∀ μ w vs, Rel E μ s w → VRs μ s w args vs → Calls E.P f vs w fun e w' =>
    ∃ v μ', e = .returned v ∧ VR μ' s' w' r v ∧ Rel E μ' s' w' ∧ Fr s.nx W μ s w μ' s' w'

section
variable {C : Cx} {Q : Exit → Slots → St → Prop} {T T' : Slots} {s s' : St} {a : Act} {w : World} {μ : Mu}

theorem Slots.get_set (T : Slots) (i j : Nat) (x : AV) : (T.set i x).get j = if j = i then x else T.get j := rfl

theorem VR.undef : VR μ s w (.tup []) undef := .tup [] #[] rfl fun i x v hx => by simp at hx

theorem At.ev (h : At C T s a w μ) (x : Operand) : VR μ s w (ev C.E T x) (a.eval x) := by
  cases x with
  | tmp t => exact h.tr.2 t
  | const v => exact VR.const v
  | global g =>
    simp only [Am.ev, Act.eval]
    split
    · exact .junk _
    · rename_i he
      have hk : g < C.E.K := by
        cases hg : C.E.glob g with
        | nil => simp [hg] at he
        | cons y l => exact (C.E.gok g 0 y (by simp [hg])).1
      have hc : ∀ j x, (C.E.glob g)[j]? = some x → ∃ v, w.cell? ((⟨g, 0, none⟩ : Addr).add j) = some v ∧ x = ofConst v := fun j x hx => by
        obtain ⟨_, v, h1, h2⟩ := C.E.gok g j x hx
        refine ⟨v, ?_, h2⟩
        rw [← h1]
        exact World.cell?_block (by rw [Addr.add_block]; exact h.rel.gl g hk)
      refine .rp _ _ (fun j => (w.cell? ((⟨g, 0, none⟩ : Addr).add j)).getD undef) ?_ ?_ ?_ ?_
      · exact Nat.lt_of_lt_of_le hk h.rel.size
      · intro id p hp e
        have := h.rel.lo id p hp
        rw [e] at this
        exact absurd hk (Nat.not_lt.2 this)
      · intro j x hx
        obtain ⟨v, h1, _⟩ := hc j x hx
        rw [h1]; rfl
      · intro j x hx
        obtain ⟨v, h1, rfl⟩ := hc j x hx
        rw [h1]
        exact VR.const v
  | func f => exact .fn _ [] [] #[] #[] rfl rfl (fun i x v hx => by simp at hx) (fun i x v hx => by simp at hx)

def Slots.put (T : Slots) (d : Option Tmp) (r : AV) : Slots := match d with
  | some d => T.set d r
  | none => T

theorem At.put (h : At C T s a w μ) {μ' : Mu} {w' : World} {r : AV} {v : Value} (hv : VR μ' s' w' r v) (hR : Rel C.E μ' s' w') (hF : Fr C.n0 C.W μ s w μ' s' w')
    {d : Option Tmp} (hd : d.all (fun i => decide (i < C.nt)) = true) : At C (T.put d r) s' (a.put d v) w' μ' where
  rel := hR
  tr := by
    cases d with
    | none => exact ⟨h.tr.1, fun i => (h.tr.2 i).mono hF⟩
    | some d =>
      simp only [Option.all_some, decide_eq_true_eq] at hd
      refine ⟨by simp [Act.put, h.tr.1], fun i => ?_⟩
      simp only [Slots.put, Slots.get_set, Act.put]
      by_cases e : i = d
      · subst e
        have hlt : i < a.tmps.size := by rw [h.tr.1]; exact hd
        simpa [hlt] using hv
      · simp only [if_neg e]
        have := (h.tr.2 i).mono hF
        rwa [Array.getD_eq_getD_getElem?, Array.getElem?_setIfInBounds_ne (Ne.symm e), ← Array.getD_eq_getD_getElem?]
  de := by cases d <;> exact h.de
  fr := h.fr.trans hF

/-! ### control -/
def thenQ (N : Slots → St → Prop) (Q : Exit → Slots → St → Prop) : Exit → Slots → St → Prop
  | .normal, T, s => N T s
  | e, T, s => Q e T s
def blockQ (id : Nat) (Q : Exit → Slots → St → Prop) : Exit → Slots → St → Prop
  | .exit id', T, s => if id' = id then Q .normal T s else Q (.exit id') T s
  | e, T, s => Q e T s

theorem CT.seq {x y : Code} (h : CT C x (thenQ (fun T s => CT C y Q T s) Q) T s) : CT C (x.seq y) Q T s := fun μ w a hA =>
  wp_seq (wp_mono (h μ w a hA) fun e a w hp => by
    obtain ⟨μ, T, s, hA, hq⟩ := hp
    cases e with
    | normal => exact hq μ w a hA
    | _ => exact ⟨μ, T, s, hA, hq⟩)

theorem CT.mono {c : Code} {Q' : Exit → Slots → St → Prop} (h : CT C c Q T s) (hq : ∀ e T s, Q e T s → Q' e T s) : CT C c Q' T s := fun μ w a hA =>
  wp_mono (h μ w a hA) fun e a w ⟨μ, T, s, hA, h⟩ => ⟨μ, T, s, hA, hq e T s h⟩

theorem CT.skip (h : Q .normal T s) : CT C .skip Q T s := fun μ w a hA => wp_skip ⟨μ, T, s, hA, h⟩
theorem CT.label {l : Nat} (h : Q .normal T s) : CT C (.label l) Q T s := fun μ w a hA => wp_label ⟨μ, T, s, hA, h⟩
theorem CT.exit {id : Nat} (h : Q (.exit id) T s) : CT C (.exit id) Q T s := fun μ w a hA => wp_exit ⟨μ, T, s, hA, h⟩
theorem CT.ret (h : Q .ret T s) : CT C .ret Q T s := fun μ w a hA => wp_ret ⟨μ, T, s, hA, h⟩

theorem CT.block {id : Nat} {c : Code} (h : CT C c (blockQ id Q) T s) : CT C (.block id c) Q T s := fun μ w a hA =>
  wp_block (wp_mono (h μ w a hA) fun e a w hp => by
    obtain ⟨μ, T, s, hA, hq⟩ := hp
    cases e with
    | exit i =>
      simp only [blockQ] at hq
      simp only [Exit.inBlock]
      split
      · rename_i hi; rw [if_pos hi] at hq; exact ⟨μ, T, s, hA, hq⟩
      · rename_i hi; rw [if_neg hi] at hq; exact ⟨μ, T, s, hA, hq⟩
    | _ => exact ⟨μ, T, s, hA, hq⟩)

theorem CT.cond {c : Operand} {x y : Code} {t : Bool} (hc : Am.ev C.E T c = .bool t) (h : CT C (if t then x else y) Q T s) : CT C (.cond c x y) Q T s := fun μ w a hA => by
  have := hA.ev c
  rw [hc] at this
  generalize hv : a.eval c = v at this
  cases this
  exact wp_cond hv (h μ w a hA)

theorem CT.cond_split {c : Operand} {x y : Code} {t : Bool} (hc : Am.ev C.E T c = .bool t) (h1 : t = true → CT C x Q T s) (h2 : t = false → CT C y Q T s) : CT C (.cond c x y) Q T s := by
  cases t
  · exact CT.cond hc (h2 rfl)
  · exact CT.cond hc (h1 rfl)

theorem least {p : Nat → Prop} (h : ∃ n, p n) : ∃ n, p n ∧ ∀ k, p k → n ≤ k := by
  obtain ⟨n, hn⟩ := h
  induction n using Nat.strongRecOn with
  | _ n ih =>
    by_cases hk : ∃ k, k < n ∧ p k
    · obtain ⟨k, h1, h2⟩ := hk
      exact ih k h1 h2
    · exact ⟨n, hn, fun k hp => Nat.le_of_not_lt fun hlt => hk ⟨k, hlt, hp⟩⟩

open Classical in
theorem CT.loop {c : Code} (I : Nat → Slots → St → Prop) {n : Nat} (h0 : I n T s)
    (h : ∀ n T s, I n T s → CT C c (thenQ (fun T' s' => ∃ n', n' < n ∧ I n' T' s') Q) T s) : CT C (.loop c) Q T s := fun μ w a hA => by
  let J : Act → World → Nat → Prop := fun a w n => ∃ μ T s, At C T s a w μ ∧ I n T s
  let m : Act → World → Nat := fun a w => if h : ∃ n, J a w n then Classical.choose (least h) else 0
  refine wp_loop (fun a w => ∃ n, J a w n) m ⟨n, μ, T, s, hA, h0⟩ fun a w hJ => ?_
  have hm : m a w = Classical.choose (least hJ) := by simp only [m, dif_pos hJ]
  obtain ⟨μ, T, s, hA, hI⟩ := (Classical.choose_spec (least hJ)).1
  refine wp_mono (h _ T s hI μ w a hA) fun e a' w' hp => ?_
  obtain ⟨μ', T', s', hA', hq⟩ := hp
  cases e with
  | normal =>
    obtain ⟨n', hlt, hI'⟩ := hq
    have hJ' : ∃ n, J a' w' n := ⟨n', μ', T', s', hA', hI'⟩
    refine ⟨hJ', ?_⟩
    have : m a' w' = Classical.choose (least hJ') := by simp only [m, dif_pos hJ']
    rw [this, hm]
    exact Nat.lt_of_le_of_lt ((Classical.choose_spec (least hJ')).2 _ ⟨μ', T', s', hA', hI'⟩) hlt
  | _ => exact ⟨μ', T', s', hA', hq⟩

/-- Slots may be forgotten. -/
theorem CT.weak {c : Code} (T' : Slots) (hT : ∀ i, T'.get i = .junk ∨ T'.get i = T.get i) (h : CT C c Q T' s) : CT C c Q T s := fun μ w a hA =>
  h μ w a ⟨hA.rel, ⟨hA.tr.1, fun i => by
    rcases hT i with e | e
    · rw [e]; exact .junk _
    · rw [e]; exact hA.tr.2 i⟩, hA.de, hA.fr⟩

theorem CT.ghost {c : Code} (hg : ∀ μ w a, At C T s a w μ → ∃ μ', At C T' s' a w μ') (h : CT C c Q T' s') : CT C c Q T s := fun μ w a hA =>
  let ⟨μ', hA'⟩ := hg μ w a hA
  h μ' w a hA'

/-! ### regions in turn -/
def OT (C : Cx) (ops : Array Oper) (Q : Exit → Slots → St → Prop) (l : List Nat) (T : Slots) (s : St) : Prop :=
  ∀ μ w a, At C T s a w μ → wpOps C.E.P ops (Post C Q) l a w

theorem CT.region {id : Nat} {ops : Array Oper} (h : OT C ops Q (List.range ops.size) T s) : CT C (.region id ops false) Q T s :=
  fun μ w a hA => wp_region (h μ w a hA)

/-- Whether an operation's guard lets it be done, if that is known. -/
def awanted (ops : Array Oper) (T : Slots) (o : Oper) : Option Bool :=
  match o.guard with
  | none => some true
  | some (j, want) => match (ops[j]?).bind (·.dst) with
    | none => some false
    | some t => match T.get t with
      | .bool b => some (b == want)
      | .tup [] => some false
      | _ => none

theorem awanted_sound (hT : TR C.nt μ s w T a.tmps) {ops : Array Oper} {o : Oper} {b : Bool} (h : awanted ops T o = some b) : Region.wanted o (yielded ops a.tmps) = b := by
  unfold awanted at h
  unfold Region.wanted
  split at h
  · rename_i hg; rw [hg]; exact Option.some.inj h
  · rename_i j want hg
    simp only [hg, yielded]
    split at h
    · rename_i hd; rw [hd]; simpa using Option.some.inj h
    · rename_i t hd
      rw [hd]
      have hv := hT.2 t
      simp only [Option.bind_some]
      split at h
      · rename_i c hc
        obtain rfl := Option.some.inj h
        rw [hc] at hv
        rw [Array.getD_eq_getD_getElem?] at hv
        cases hx : a.tmps[t]? with
        | none => rw [hx] at hv; cases hv
        | some x =>
          rw [hx] at hv
          simp only [Option.getD_some] at hv
          cases hv
          cases c <;> cases want <;> rfl
      · rename_i hc
        obtain rfl := Option.some.inj h
        rw [hc] at hv
        rw [Array.getD_eq_getD_getElem?] at hv
        cases hx : a.tmps[t]? with
        | none => simp
        | some x =>
          rw [hx] at hv
          simp only [Option.getD_some] at hv
          cases hv
          simp
      · cases h

theorem OT.nil {ops : Array Oper} (h : Q .normal T s) : OT C ops Q [] T s := fun μ w a hA => ⟨μ, T, s, hA, h⟩

/-- One operation's step to what follows. -/
def Step1 (C : Cx) (o : Oper) (T : Slots) (s : St) (r : AV) (s' : St) : Prop :=
  ∀ μ w a, At C T s a w μ → ∀ (K : Act → World → Prop) (X : Exit → Act → World → Prop),
    (∀ v w' μ', VR μ' s' w' r v → Rel C.E μ' s' w' → Fr C.n0 C.W μ s w μ' s' w' → K (a.put o.dst v) w') → o.wp C.E.P a w K X

theorem Step1.val {o : Oper} {r : AV} (h : aop C.E o.op (Am.ev C.E T) s = some (r, s')) (hm : (awr o.op (Am.ev C.E T)).may C.n0 C.W) : Step1 C o T s r s' := fun μ w a hA K X hK => by
  obtain ⟨v, w', μ', h1, h2, h3, h4⟩ := aop_sound (n0 := C.n0) (W := C.W) hA.rel h hm (fun x _ => hA.ev x) (σ := a.eval)
  unfold Oper.wp
  rcases h1 with h1 | ⟨h1, rfl⟩
  · rw [h1]; exact hK v w' μ' h2 h3 h4
  · rw [h1]; exact hK _ w' μ' h2 h3 h4

/-- Which function a call calls, with which arguments. -/
def acall (E : Env) (T : Slots) (c : Call) : Option (FuncId × List AV) :=
  match c.callee with
  | .value x => match ev E T x with
    | .fn (.func f) a b => some (f, a ++ c.args.toList.map (ev E T) ++ b)
    | _ => none
  | _ => none

theorem VRs.append {x y : List AV} {u v : Array Value} (h : VRs μ s w x u) (k : VRs μ s w y v) : VRs μ s w (x ++ y) (u ++ v) := by
  refine ⟨by simp [h.1, k.1], fun i a b ha hb => ?_⟩
  rw [List.getElem?_append] at ha
  rw [Array.getElem?_append] at hb
  by_cases hi : i < x.length
  · rw [if_pos hi] at ha
    rw [if_pos (by rw [← h.1]; exact hi)] at hb
    exact h.2 i a b ha hb
  · rw [if_neg hi] at ha
    rw [if_neg (by rw [← h.1]; exact hi)] at hb
    rw [h.1] at ha
    exact k.2 _ a b ha hb

theorem Step1.call {o : Oper} {c : Call} {r : AV} {f : FuncId} {xs : List AV} {W' : Nat → Prop} (ho : o.op = .call c) (hc : acall C.E T c = some (f, xs)) (hF : FT C.E W' f xs s r s')
    (hW : ∀ id, W' id → May C.n0 C.W id) (hn : C.n0 ≤ C.s.nx) : Step1 C o T s r s' := fun μ w a hA K X hK => by
  obtain ⟨⟨fn, hf, hname, hbody⟩, hcall⟩ := hF
  unfold acall at hc
  split at hc
  · rename_i x hcallee
    split at hc
    · rename_i f' a' b' hfn
      obtain ⟨rfl, rfl⟩ := pairEq (Option.some.inj hc)
      have hv := hA.ev x
      rw [hfn] at hv
      generalize hx : a.eval x = v at hv
      cases hv with
      | fn _ _ _ va vb hla hlb ha hb =>
      have hargs : VRs μ s w (c.args.toList.map (Am.ev C.E T)) (c.args.map a.eval) := VRsOf (xs := c.args) fun y _ => hA.ev y
      have hall : VRs μ s w (a' ++ c.args.toList.map (Am.ev C.E T) ++ b') (va ++ c.args.map a.eval ++ vb) := (VRs.append ⟨hla, ha⟩ hargs).append ⟨hlb, hb⟩
      have hrun : (execOp a.eval o).run C.E.P w = .ok (.enter f' (va ++ c.args.map a.eval ++ vb)) w := by
        simp only [execOp, ho, resolve, hcallee, hx, Deferred.ofValue, pure_bind, invoke, callFunc, Sem.run_bind, run_program, Result.andThen_ok, hf, hname, hbody, Bool.false_eq_true, if_false, Sem.run_pure]
      unfold Oper.wp
      rw [hrun, Oper.upon_enter]
      refine Calls.mono (hcall μ w _ hA.rel hall) fun e w' he => ?_
      obtain ⟨v, μ', rfl, h1, h2, h3⟩ := he
      refine hK v w' μ' h1 h2 (h3.weaken fun id hid => ?_)
      rcases hid with h | h
      · exact hW id h
      · exact .inr (Nat.le_trans hn (Nat.le_trans hA.fr.nx h))
    · cases hc
  · cases hc

/-- What an extern's call gives, the world as it was. -/
def FX (E : Env) (f : FuncId) (args : List AV) (s : St) (r : AV) : Prop :=
  ∀ μ w vs, Rel E μ s w → VRs μ s w args vs → ∃ v, (callFunc f vs).run E.P w = .ok (.value v) w ∧ VR μ s w r v

theorem Step1.ext {o : Oper} {c : Call} {r : AV} {f : FuncId} {xs : List AV} (ho : o.op = .call c) (hc : acall C.E T c = some (f, xs)) (hF : FX C.E f xs s r) : Step1 C o T s r s := fun μ w a hA K X hK => by
  unfold acall at hc
  split at hc
  · rename_i x hcallee
    split at hc
    · rename_i f' a' b' hfn
      obtain ⟨rfl, rfl⟩ := pairEq (Option.some.inj hc)
      have hv := hA.ev x
      rw [hfn] at hv
      generalize hx : a.eval x = v at hv
      cases hv with
      | fn _ _ _ va vb hla hlb ha hb =>
      have hargs : VRs μ s w (c.args.toList.map (Am.ev C.E T)) (c.args.map a.eval) := VRsOf (xs := c.args) fun y _ => hA.ev y
      have hall : VRs μ s w (a' ++ c.args.toList.map (Am.ev C.E T) ++ b') (va ++ c.args.map a.eval ++ vb) := (VRs.append ⟨hla, ha⟩ hargs).append ⟨hlb, hb⟩
      obtain ⟨v, h1, h2⟩ := hF μ w _ hA.rel hall
      have hrun : (execOp a.eval o).run C.E.P w = .ok (.value v) w := by
        simp only [execOp, ho, resolve, hcallee, hx, Deferred.ofValue, pure_bind, invoke]
        exact h1
      unfold Oper.wp
      rw [hrun]
      exact hK v w μ h2 hA.rel hA.rel.refl
    · cases hc
  · cases hc

theorem OT.step {ops : Array Oper} {i : Nat} {rest : List Nat} {o : Oper} {r : AV} (ho : ops[i]? = some o) (hw : awanted ops T o = some true) (hd : o.dst.all (fun i => decide (i < C.nt)) = true)
    (h : Step1 C o T s r s') (k : OT C ops Q rest (T.put o.dst r) s') : OT C ops Q (i :: rest) T s := fun μ w a hA => by
  rw [wpOps_cons]
  unfold wpOp
  simp only [ho, awanted_sound hA.tr hw, if_true]
  exact .inl (h μ w a hA _ _ fun v w' μ' h1 h2 h3 => k μ' w' _ (hA.put h1 h2 h3 hd))

theorem OT.skip {ops : Array Oper} {i : Nat} {rest : List Nat} {o : Oper} (ho : ops[i]? = some o) (hw : awanted ops T o = some false) (hd : o.dst.all (fun i => decide (i < C.nt)) = true)
    (k : OT C ops Q rest (T.put o.dst (.tup [])) s) : OT C ops Q (i :: rest) T s := fun μ w a hA => by
  rw [wpOps_cons]
  unfold wpOp
  simp only [ho, awanted_sound hA.tr hw, Bool.false_eq_true, if_false]
  exact k μ w _ (hA.put (VR.undef) hA.rel hA.rel.refl hd)
end
end Go.Am
namespace Go.Am
section
variable {C : Cx} {Q : Exit → Slots → St → Prop} {T T' : Slots} {s s' : St} {a : Act} {w : World} {μ : Mu}
/-! ### a function's body -/
inductive Below (n : Nat) : AV → Prop
  | junk : Below n .junk
  | bool (b : Bool) : Below n (.bool b)
  | int (k : IntKind) (m : Int) : Below n (.int k m)
  | str (x : List UInt8) : Below n (.str x)
  | agg (cs : List AV) (h : ∀ (i : Nat) x, cs[i]? = some x → Below n x) : Below n (.agg cs)
  | tup (cs : List AV) (h : ∀ (i : Nat) x, cs[i]? = some x → Below n x) : Below n (.tup cs)
  | nsl : Below n .nsl
  | sl (xs : List (List AV)) (h : ∀ i j x, get2 xs i j = some x → Below n x) : Below n (.sl xs)
  | np : Below n .np
  | rp (cs : List AV) (h : ∀ (i : Nat) x, cs[i]? = some x → Below n x) : Below n (.rp cs)
  | ptr (id off : Nat) (h : id < n) : Below n (.ptr id off)
  | ep (id i j : Nat) (h : id < n) : Below n (.ep id i j)
  | ls (id off len : Nat) (h : id < n) : Below n (.ls id off len)
  | map (id : Nat) (h : id < n) : Below n (.map id)
  | nmap : Below n .nmap
  | fn (f : Fn) (a b : List AV) (ha : ∀ (i : Nat) x, a[i]? = some x → Below n x) (hb : ∀ (i : Nat) x, b[i]? = some x → Below n x) : Below n (.fn f a b)
  | nfn : Below n .nfn
  | ifc (t : TypeId) (x : AV) (h : Below n x) : Below n (.ifc t x)
  | nif : Below n .nif
  | it (id : Nat) (h : id < n) : Below n (.it id)

/-- Objects from n on are forgotten. -/
def Mu.cut (μ : Mu) (n : Nat) : Mu := fun id => if id < n then μ id else none

theorem VR.reset {x : AV} {v : Value} (h : VR μ s w x v) (hB : Below s'.nx x) (hg : ∀ id, id < s'.nx → s'.get id = s.get id) : VR (μ.cut s'.nx) s' w x v := by
  have hfree : ∀ b, μ.free b → (μ.cut s'.nx).free b := fun b hm id p hp => by
    unfold Mu.cut at hp
    split at hp
    · exact hm id p hp
    · cases hp
  have hcut : ∀ id, id < s'.nx → (μ.cut s'.nx) id = μ id := fun id hid => if_pos hid
  induction h with
  | junk v => exact .junk v
  | bool b => exact .bool b
  | int k n => exact .int k n
  | str b => exact .str b
  | agg cs vs hl _ ih => cases hB with | agg _ hb => exact .agg cs vs hl fun i x v hx hv => ih i x v hx hv (hb i x hx)
  | tup cs vs hl _ ih => cases hB with | tup _ hb => exact .tup cs vs hl fun i x v hx hv => ih i x v hx hv (hb i x hx)
  | nsl => exact .nsl
  | slnil a => exact .slnil a
  | sl xs a cap sz vs hb hm hsp hcap hsz hc _ ih => cases hB with | sl _ hbl => exact .sl xs a cap sz vs hb (hfree _ hm) hsp hcap hsz hc fun i j x hx => ih i j x hx (hbl i j x hx)
  | np => exact .np
  | rp cs a vs hb hm hc _ ih => cases hB with | rp _ hbl => exact .rp cs a vs hb (hfree _ hm) hc fun j x hx => ih j x hx (hbl j x hx)
  | ptr id off v h1 hn h => cases hB with | ptr _ _ hid => exact .ptr id off v h1 hid fun o ho => by rw [hcut id hid]; exact h o (by rw [← hg id hid]; exact ho)
  | ep id i j v h1 hn h => cases hB with | ep _ _ _ hid => exact .ep id i j v h1 hid fun sz wr es ho => by rw [hcut id hid]; exact h sz wr es (by rw [← hg id hid]; exact ho)
  | ls id off len v h1 hn h => cases hB with | ls _ _ _ hid => exact .ls id off len v h1 hid fun sz wr es ho => by rw [hcut id hid]; exact h sz wr es (by rw [← hg id hid]; exact ho)
  | map id v h1 hn h => cases hB with | map _ hid => exact .map id v h1 hid fun o ho => by rw [hcut id hid]; exact h o (by rw [← hg id hid]; exact ho)
  | nmap => exact .nmap
  | fn f a b va vb hla hlb _ _ iha ihb => cases hB with | fn _ _ _ h1 h2 => exact .fn f a b va vb hla hlb (fun i x v hx hv => iha i x v hx hv (h1 i x hx)) (fun i x v hx hv => ihb i x v hx hv (h2 i x hx))
  | nfn => exact .nfn
  | ifc t x v _ ih => cases hB with | ifc _ _ h => exact .ifc t x v (ih h)
  | nif => exact .nif
  | it id v h1 hn h => cases hB with | it _ hid => exact .it id v h1 hid fun o ho => by rw [hcut id hid]; exact h o (by rw [← hg id hid]; exact ho)

/-- What an object holds mentions nothing from n on. -/
inductive OBelow (n : Nat) : AObj → Prop
  | var (ty : TypeId) (cs : List AV) (h : ∀ (i : Nat) x, cs[i]? = some x → Below n x) : OBelow n (.var ty cs)
  | row (sz : Nat) (wr : RK) (es : List (List AV)) (h : ∀ i j x, get2 es i j = some x → Below n x) : OBelow n (.row sz wr es)
  | map (es : List (AV × AV)) (h : ∀ (i : Nat) x, es[i]? = some x → Below n x.1 ∧ Below n x.2) : OBelow n (.map es)
  | siter (str : List UInt8) (pos : Nat) : OBelow n (.siter str pos)

theorem ORel.reset {p : Addr × Nat} {o : AObj} (h : ORel μ s w p o) (hB : OBelow s'.nx o) (hg : ∀ id, id < s'.nx → s'.get id = s.get id) : ORel (μ.cut s'.nx) s' w p o := by
  cases hB with
  | var ty cs hb =>
    obtain ⟨h1, h2, vs, t, h3, ⟨h4, h5⟩, h6⟩ := h
    exact ⟨h1, h2, vs, t, h3, ⟨h4, fun i x v hx hv => (h5 i x v hx hv).reset (hb i x hx) hg⟩, h6⟩
  | row sz wr es hb =>
    obtain ⟨h1, vs, t, lo, hi, h2, h3, h4, h5, h6, h7, h8⟩ := h
    refine ⟨h1, vs, t, lo, hi, h2, h3, h4, h5, h6, h7, fun i j x hx => ?_⟩
    obtain ⟨v, h9, h10⟩ := h8 i j x hx
    exact ⟨v, h9, h10.reset (hb i j x hx) hg⟩
  | map es hb =>
    obtain ⟨h1, h2, ents, clk, h3, h4, h5⟩ := h
    exact ⟨h1, h2, ents, clk, h3, h4, fun i x e hx he => ⟨(h5 i x e hx he).1.reset (hb i x hx).1 hg, (h5 i x e hx he).2.reset (hb i x hx).2 hg⟩⟩
  | siter str pos => exact h

/-- A call's end: which of its own objects go on. -/
structure Ends (W : Nat → Prop) (s0 s1 s' : St) : Prop where
  lo : s0.nx ≤ s'.nx
  hi : s'.nx ≤ s1.nx
  get : ∀ id, id < s'.nx → s'.get id = s1.get id
  below : ∀ id, id < s'.nx → W id ∨ s0.nx ≤ id → ∀ o, s'.get id = some o → OBelow s'.nx o

theorem Ends.fr {W : Nat → Prop} {μ0 : Mu} {s0 : St} {w0 : World} (h : Ends W s0 s s') (F : Fr s0.nx W μ0 s0 w0 μ s w) : Fr s0.nx W μ0 s0 w0 (μ.cut s'.nx) s' w where
  os := F.os
  tape := F.tape
  output := F.output
  size := F.size
  nx := h.lo
  blocks := F.blocks
  keep id p hid hp ho := by
    have hlt := Nat.lt_of_lt_of_le hid h.lo
    rw [Mu.cut, if_pos hlt]
    exact F.keep id p hid hp (by rw [← h.get id hlt]; exact ho)
  old id p hid hp := by
    have hlt := Nat.lt_of_lt_of_le hid h.lo
    rw [Mu.cut, if_pos hlt] at hp
    exact F.old id p hid hp
  new id p hid hp := by
    unfold Mu.cut at hp
    split at hp
    · exact F.new id p hid hp
    · cases hp
  shape id o hid ho := F.shape id o hid (by rw [← h.get id (Nat.lt_of_lt_of_le hid h.lo)]; exact ho)
  same id hid hm := by rw [h.get id (Nat.lt_of_lt_of_le hid h.lo)]; exact F.same id hid hm

theorem Ends.rel {E : Env} {W : Nat → Prop} {μ0 : Mu} {s0 : St} {w0 : World} (h : Ends W s0 s s') (R0 : Rel E μ0 s0 w0) (R : Rel E μ s w) (F : Fr s0.nx W μ0 s0 w0 μ s w) : Rel E (μ.cut s'.nx) s' w where
  obj id p hp := by
    have hlt : id < s'.nx := by
      unfold Mu.cut at hp
      split at hp
      · assumption
      · cases hp
    rw [Mu.cut, if_pos hlt] at hp
    obtain ⟨h1, o, h2, h3⟩ := R.obj id p hp
    refine ⟨hlt, o, by rw [h.get id hlt]; exact h2, ?_⟩
    by_cases hm : W id ∨ s0.nx ≤ id
    · exact h3.reset (h.below id hlt hm o (by rw [h.get id hlt]; exact h2)) h.get
    · have hid : id < s0.nx := Nat.lt_of_not_le fun e => hm (.inr e)
      have hsame := F.same id hid hm
      have hp0 := F.old id p hid hp
      obtain ⟨_, o0, h4, h5⟩ := R0.obj id p hp0
      have : o0 = o := by
        rw [hsame, h4] at h2
        exact Option.some.inj h2
      subst this
      refine h5.mono (h.fr F) (F.blocks _ (R0.block_lt hp0) fun id1 p1 hm1 hp1 e => ?_)
      exact hm (R0.inj id1 id p1 p hp1 hp0 e ▸ hm1)
  inj i j p q hi hj hb := by
    unfold Mu.cut at hi hj
    split at hi
    · split at hj
      · exact R.inj i j p q hi hj hb
      · cases hj
    · cases hi
  lo i p hp := by
    unfold Mu.cut at hp
    split at hp
    · exact R.lo i p hp
    · cases hp
  gl := R.gl
  size := R.size
  tape := R.tape
  os := R.os

/-- A pure function's end. -/
theorem Ends.pure {s0 s1 : St} (h : s0.nx ≤ s1.nx) (hs : ∀ id, id < s0.nx → ¬ False → s1.get id = s0.get id) : Ends (fun _ => False) s0 s1 s0 where
  lo := Nat.le_refl _
  hi := h
  get id hid := (hs id hid (fun h => h)).symm
  below id hid hm := by
    rcases hm with h | h
    · exact h.elim
    · omega
end
/-- A value that goes on as data alone: the rows of the call's own, from n on, are read only from here on. -/
inductive Frz (s1 : St) (n : Nat) : AV → AV → Prop
  | same (x : AV) (h : Below n x) : Frz s1 n x x
  | nil : Frz s1 n .nsl (.sl [])
  | row (id sz : Nat) (k : RK) (es es' : List (List AV)) (hs : s1.get id = some (.row sz k es)) (hn : n ≤ id) (hl : es'.length = es.length) (hsz : ∀ e ∈ es', e.length = sz)
      (h : ∀ i j y, get2 es' i j = some y → ∃ x, get2 es i j = some x)
      (hf : ∀ i j x y, get2 es i j = some x → get2 es' i j = some y → Frz s1 n x y) : Frz s1 n (.ls id 0 es.length) (.sl es')
  | agg (cs ds : List AV) (hl : cs.length = ds.length) (h : ∀ (i : Nat) x y, cs[i]? = some x → ds[i]? = some y → Frz s1 n x y) : Frz s1 n (.agg cs) (.agg ds)
  | tup (cs ds : List AV) (hl : cs.length = ds.length) (h : ∀ (i : Nat) x y, cs[i]? = some x → ds[i]? = some y → Frz s1 n x y) : Frz s1 n (.tup cs) (.tup ds)

section
variable {E : Env} {μ : Mu} {s0 s1 : St} {w : World}
theorem VR.frz (hR : Rel E μ s1 w) (hg : ∀ id, id < s0.nx → s0.get id = s1.get id) {x y : AV} (hf : Frz s1 s0.nx x y) : ∀ {v : Value}, VR μ s1 w x v → VR (μ.cut s0.nx) s0 w y v := by
  induction hf with
  | same x h => exact fun hv => hv.reset h hg
  | nil => intro v hv; cases hv; exact .slnil none
  | row id sz k es es' hs hn hl hsz hex hf ih =>
    intro v hv
    cases hv with
    | ls _ _ _ _ h1 hid hp =>
    rcases hp _ _ _ hs with ⟨h0, a, rfl⟩ | ⟨p, cap, hq, rfl, hlc, hcr⟩
    · have : es' = [] := List.eq_nil_of_length_eq_zero (by rw [hl, h0])
      subst this
      exact .slnil a
    · obtain ⟨_, o, ho, hr⟩ := hR.obj id p hq
      obtain rfl : o = .row sz k es := Option.some.inj (ho.symm.trans hs)
      have hbl := hr.block_lt
      obtain ⟨hsp, us, t, lo, hi, hh, _, _, hroom, hroom2, hall2, hx⟩ := hr
      simp only [Nat.zero_mul, Nat.zero_add] at *
      rw [← hl] at hlc ⊢
      have key : ∀ i j y, get2 es' i j = some y → ∃ u, us[p.1.off + (i * sz + j)]? = some u ∧ VR (μ.cut s0.nx) s0 w y u := fun i j y hy => by
        obtain ⟨x, hx1⟩ := hex i j y hy
        obtain ⟨u, hu, hvu⟩ := hx i j x hx1
        exact ⟨u, hu, ih i j x y hx1 hy hvu⟩
      refine .sl es' (p.1.add 0) cap sz (fun i j => (us[p.1.off + (i * sz + j)]?).getD Go.undef) (by rw [Addr.add_zero]; exact hbl) (fun id' q hq' e => ?_) (fun _ => Addr.add_spot hsp 0) hlc hsz (fun i j y hy => ?_) (fun i j y hy => ?_)
      · unfold Mu.cut at hq'
        split at hq'
        · rename_i hlt
          have := hR.inj id' id q p hq' hq (by rw [Addr.add_zero] at e; exact e)
          omega
        · cases hq'
      · obtain ⟨u, hu, _⟩ := key i j y hy
        rw [Addr.add_zero, cell_of_heap hh hsp, hu]; rfl
      · obtain ⟨u, hu, hvu⟩ := key i j y hy
        rw [hu]; exact hvu
  | agg cs ds hl h ih =>
    intro v hv
    cases hv with
    | agg _ vs hl1 h1 =>
    refine .agg ds vs (by rw [← hl, hl1]) fun i y u hy hu => ?_
    have hlt : i < cs.length := by rw [hl]; exact (List.getElem?_eq_some_iff.1 hy).1
    exact ih i cs[i] y (List.getElem?_eq_getElem hlt) hy (h1 i _ u (List.getElem?_eq_getElem hlt) hu)
  | tup cs ds hl h ih =>
    intro v hv
    cases hv with
    | tup _ vs hl1 h1 =>
    refine .tup ds vs (by rw [← hl, hl1]) fun i y u hy hu => ?_
    have hlt : i < cs.length := by rw [hl]; exact (List.getElem?_eq_some_iff.1 hy).1
    exact ih i cs[i] y (List.getElem?_eq_getElem hlt) hy (h1 i _ u (List.getElem?_eq_getElem hlt) hu)

end

/-- An operation whose own new row goes on as data at once. -/
theorem Step1.z {C : Cx} {T : Slots} {s s1 : St} {o : Oper} {r1 r : AV} (h : aop C.E o.op (Am.ev C.E T) s = some (r1, s1)) (hw : awr o.op (Am.ev C.E T) = .junk) (hf : Frz s1 s.nx r1 r) (hn : C.n0 ≤ C.s.nx) : Step1 C o T s r s := fun μ w a hA K X hK => by
  obtain ⟨v, w', μ', h1, h2, h3, h4⟩ := aop_sound (n0 := s.nx) (W := fun _ => False) hA.rel h (by rw [hw]; trivial) (fun x _ => hA.ev x) (σ := a.eval)
  have hE : Ends (fun _ => False) s s1 s := Ends.pure h4.nx fun id hid _ => h4.same id hid fun hm => by
    rcases hm with hm | hm
    · exact hm
    · exact absurd hid (Nat.not_lt.2 hm)
  have hv := VR.frz h3 hE.get hf h2
  have hF : Fr C.n0 C.W μ s w (μ'.cut s.nx) s w' := (hE.fr h4).weaken fun id hid => by
    rcases hid with h | h
    · exact h.elim
    · exact .inr (Nat.le_trans hn (Nat.le_trans hA.fr.nx h))
  unfold Oper.wp
  rcases h1 with h1 | ⟨h1, rfl⟩
  · rw [h1]; exact hK v w' _ hv (hE.rel hA.rel h3 h4) hF
  · rw [h1]; exact hK _ w' _ hv (hE.rel hA.rel h3 h4) hF
end Go.Am
namespace Go.Am
section
variable {C : Cx} {Q : Exit → Slots → St → Prop} {T T' : Slots} {s s' : St} {a : Act} {w : World} {μ : Mu}

theorem aop_congr {E : Env} {o : Op} {ρ ρ' : Operand → AV} (h : ∀ x ∈ o.operands, ρ x = ρ' x) : aop E o ρ s = aop E o ρ' s := by
  have pairs : ∀ ps : Array (Nat × Operand), (∀ x ∈ (ps.toList.map (·.2)), ρ x = ρ' x) →
      (ps.toList.map fun p => (p.1, ρ p.2)) = (ps.toList.map fun p => (p.1, ρ' p.2)) := fun ps hp =>
    List.map_congr_left fun p hm => by rw [hp p.2 (List.mem_map.2 ⟨p, hm, rfl⟩)]
  cases o <;> simp only [Op.operands] at h <;> simp only [aop]
  case build t ps => rw [pairs ps fun x hx => h x (by simpa using hx)]
  case buildSlice t n ps => rw [pairs ps fun x hx => h x (by simpa using hx)]
  case makeFunc f a b =>
    rw [List.map_congr_left (l := a.toList) fun x hx => h x (by simp at hx; simp [hx]), List.map_congr_left (l := b.toList) fun x hx => h x (by simp at hx; simp [hx])]
  case call c =>
    split
    · rename_i b hb
      rw [List.map_congr_left (l := c.args.toList) fun x hx => h x (by simp at hx; simp [Call.operands, hx])]
    · rfl
  case makeMap t q =>
    cases q with
    | none => rfl
    | some x => simp only [h x (by simp)]
  case slice t x lo hi mx =>
    cases mx with
    | some m => rfl
    | none => cases lo <;> cases hi <;> simp only [abound] <;> simp_all
  all_goals (try (simp_all; done))
  all_goals rfl
theorem awr_congr {o : Op} {ρ ρ' : Operand → AV} (h : ∀ x ∈ o.operands, ρ x = ρ' x) : awr o ρ = awr o ρ' := by
  cases o <;> simp only [Op.operands] at h <;> simp only [awr]
  case store t a v => exact h a (by simp)
  case next i b => exact h i (by simp)
  case mapUpdate t m k v => exact h m (by simp)
  case insert t m k v => exact h m (by simp)
  case call c => rw [List.map_congr_left (l := c.args.toList) fun x hx => h x (by simp at hx; simp [Call.operands, hx])]

/-- An operation's step, as its operands say. -/
inductive StepS (C : Cx) (o : Oper) (T : Slots) (s : St) (r : AV) (s' : St) : Prop
  | val (h : aop C.E o.op (ev C.E T) s = some (r, s')) (hm : (awr o.op (ev C.E T)).may C.n0 C.W)
  | call {c : Call} {f : FuncId} {xs : List AV} {W' : Nat → Prop} (ho : o.op = .call c) (hc : acall C.E T c = some (f, xs)) (hF : FT C.E W' f xs s r s')
    (hW : ∀ id, W' id → May C.n0 C.W id) (hn : C.n0 ≤ C.s.nx)
  | z {r1 : AV} {s1 : St} (h : aop C.E o.op (ev C.E T) s = some (r1, s1)) (hw : awr o.op (ev C.E T) = .junk) (hf : Frz s1 s.nx r1 r) (hn : C.n0 ≤ C.s.nx) (hs : s' = s)
  | ext {c : Call} {f : FuncId} {xs : List AV} (ho : o.op = .call c) (hc : acall C.E T c = some (f, xs)) (hF : FX C.E f xs s r) (hs : s' = s)
theorem StepS.one {o : Oper} {r : AV} (h : StepS C o T s r s') : Step1 C o T s r s' := by
  cases h with
  | val h hm => exact .val h hm
  | call ho hc hF hW hn => exact .call ho hc hF hW hn
  | z h hw hf hn hs => subst hs; exact .z h hw hf hn
  | ext ho hc hF hs => subst hs; exact .ext ho hc hF
theorem StepS.congr {o : Oper} {r : AV} (h : StepS C o T s r s') (hT : ∀ x ∈ o.op.operands, ev C.E T x = ev C.E T' x) : StepS C o T' s r s' := by
  have key : ∀ {c f xs}, o.op = .call c → acall C.E T c = some (f, xs) → acall C.E T' c = some (f, xs) := fun {c f xs} ho hc => by
    rw [← hc]
    rw [ho] at hT
    simp only [Op.operands] at hT
    unfold acall
    cases hcal : c.callee with
    | value x =>
      simp only []
      rw [hT x (by simp [Call.operands, hcal]), List.map_congr_left (l := c.args.toList) fun x hx => hT x (by simp at hx; simp [Call.operands, hx])]
    | _ => rfl
  cases h with
  | val h hm => exact .val (by rw [← aop_congr hT]; exact h) (by rw [← awr_congr hT]; exact hm)
  | call ho hc hF hW hn => exact .call ho (key ho hc) hF hW hn
  | z h hw hf hn hs => exact .z (by rw [← aop_congr hT]; exact h) (by rw [← awr_congr hT]; exact hw) hf hn hs
  | ext ho hc hF hs => exact .ext ho (key ho hc) hF hs

/-- A result's value. -/
def ares1 (E : Env) (T : Slots) (s : St) : ResultVar → Option AV
  | .tmp t => some (T.get t)
  | .cell a t => match E.ti t with
    | some x => match T.get a with
      | .ptr id o => match aload s (.ptr id o) x.size with
        | some cs => ofCells x.agg cs
        | none => none
      | _ => none
    | none => none
def aresL (E : Env) (T : Slots) (s : St) : List ResultVar → Option (List AV)
  | [] => some []
  | x :: l => match ares1 E T s x, aresL E T s l with
    | some v, some vs => some (v :: vs)
    | _, _ => none
def ares (E : Env) (T : Slots) (s : St) (rs : Array ResultVar) : Option AV :=
  match aresL E T s rs.toList with
  | some [v] => some v
  | some vs => some (.tup vs)
  | none => none

/-- One result. -/
def resF (tmps : Array Value) (x : ResultVar) : Sem Value :=
  match x with
  | .tmp t => pure (tmps.getD t undef)
  | .cell b t => do loadVar t (← asAddr (tmps.getD b undef))
theorem results_eq (fn : Func) (tmps : Array Value) : results fn tmps = (do
    let vs ← fn.results.mapM (resF tmps)
    pure (if h : vs.size = 1 then vs[0] else .tuple vs) : Sem Value) := rfl

theorem ares1_sound (hA : At C T s a w μ) {x : ResultVar} {r : AV} (h : ares1 C.E T s x = some r) :
    ∃ v, (resF a.tmps x).run C.E.P w = .ok v w ∧ VR μ s w r v := by
  cases x with
  | tmp t =>
    obtain rfl := Option.some.inj h
    exact ⟨_, rfl, hA.tr.2 t⟩
  | cell b t =>
    simp only [ares1] at h
    split at h
    · rename_i x hx
      split at h
      · rename_i id o hb
        split at h
        · rename_i cs hcs
          have hv := hA.tr.2 b
          rw [hb] at hv
          obtain ⟨hl, ad, vs, he, hc, hvs⟩ := aload_sound hA.rel hcs hv
          obtain ⟨u, hu, hru⟩ := run_loadVar' hx hl vs hc hvs h
          refine ⟨u, ?_, hru⟩
          simp only [resF, he, asAddr, Sem.run_bind, Sem.run_pure, Result.andThen_ok, hu]
        · cases h
      · cases h
    · cases h

theorem aresL_sound (hA : At C T s a w μ) : ∀ {l : List ResultVar} {rs : List AV}, aresL C.E T s l = some rs →
    ∃ vs : List Value, (l.mapM (resF a.tmps)).run C.E.P w = .ok vs w ∧ rs.length = vs.length ∧
      ∀ (i : Nat) x v, rs[i]? = some x → vs[i]? = some v → VR μ s w x v := by
  intro l
  induction l with
  | nil =>
    intro rs h
    obtain rfl := Option.some.inj h
    exact ⟨[], rfl, rfl, fun i x v hx => by simp at hx⟩
  | cons y l ih =>
    intro rs h
    simp only [aresL] at h
    split at h
    · rename_i v vs h1 h2
      obtain rfl := Option.some.inj h
      obtain ⟨u, hu, hru⟩ := ares1_sound hA h1
      obtain ⟨us, hus, hlen, hall⟩ := ih h2
      refine ⟨u :: us, ?_, by simp [hlen], fun i x v hx hv => ?_⟩
      · simp only [List.mapM_cons, Sem.run_bind, hu, Result.andThen_ok, hus, Sem.run_pure]
      · cases i with
        | zero =>
          simp at hx hv
          subst hx; subst hv
          exact hru
        | succ i =>
          simp at hx hv
          exact hall i x v hx hv
    · cases h

theorem ares_sound (hA : At C T s a w μ) {fn : Func} {r : AV} (h : ares C.E T s fn.results = some r) : ∃ v, (results fn a.tmps).run C.E.P w = .ok v w ∧ VR μ s w r v := by
  unfold ares at h
  cases hl : aresL C.E T s fn.results.toList with
  | none => rw [hl] at h; cases h
  | some rs =>
    obtain ⟨vs, h1, h2, h3⟩ := aresL_sound hA hl
    have hrun : (results fn a.tmps).run C.E.P w = .ok (if h : vs.toArray.size = 1 then vs.toArray[0] else .tuple vs.toArray) w := by
      rw [results_eq, ← Array.toArray_toList (xs := fn.results)]
      simp only [List.mapM_toArray, map_eq_pure_bind, bind_assoc, Sem.run_bind, h1, Result.andThen_ok, Sem.run_pure]
    rw [hrun]
    refine ⟨_, rfl, ?_⟩
    rw [hl] at h
    split at h
    · rename_i v he
      obtain rfl := Option.some.inj h
      obtain rfl := Option.some.inj he
      match vs, h2, h3 with
      | [u], _, h3 => exact h3 0 v u rfl rfl
    · rename_i vs' hne he
      obtain rfl := Option.some.inj h
      obtain rfl := Option.some.inj he
      have : ¬ vs.toArray.size = 1 := by
        intro e
        have e1 : rs.length = 1 := by rw [h2]; simpa using e
        match rs, e1, hne with
        | [x], _, hne => exact hne x rfl
      rw [dif_neg this]
      exact .tup _ _ (by simp [h2]) fun i x v hx hv => h3 i x v hx (by simpa using hv)
    · rename_i he; cases he

def T0 : Nat → List AV → Slots
  | _, [] => []
  | n, x :: l => (n, x) :: T0 (n + 1) l
theorem T0_get : ∀ (l : List AV) (k i : Nat), (T0 k l).get i = if k ≤ i then (l[i - k]?).getD .junk else .junk := by
  intro l
  induction l with
  | nil => intro k i; simp [T0, Slots.get]
  | cons x l ih =>
    intro k i
    simp only [T0, Slots.get, ih]
    by_cases h : i = k
    · subst h; simp
    · rw [if_neg h]
      by_cases h1 : k + 1 ≤ i
      · rw [if_pos h1, if_pos (by omega)]
        have : i - k = (i - (k + 1)) + 1 := by omega
        rw [this, List.getElem?_cons_succ]
      · rw [if_neg h1, if_neg (by omega)]

theorem At.start {E : Env} {W : Nat → Prop} {nt : Nat} {args : List AV} {vs : Array Value} (hR : Rel E μ s w) (hvs : VRs μ s w args vs) (hl : args.length ≤ nt) :
    At ⟨E, s.nx, W, nt, μ, s, w⟩ (T0 0 args) s { tmps := vs ++ Array.replicate (nt - vs.size) undef, defers := [] } w μ := by
  refine ⟨hR, ⟨?_, fun i => ?_⟩, rfl, hR.refl⟩
  · simp only [Array.size_append, Array.size_replicate]
    have := hvs.1
    omega
  · rw [T0_get]
    simp only [Nat.zero_le, if_true, Nat.sub_zero]
    cases hx : args[i]? with
    | none => exact .junk _
    | some x =>
      have hlt : i < vs.size := by
        rw [← hvs.1]
        exact (List.getElem?_eq_some_iff.1 hx).1
      have := hvs.2 i x vs[i] hx (by simp [hlt])
      have e : (vs ++ Array.replicate (nt - vs.size) undef).getD i undef = vs[i] := by
        rw [Array.getD_eq_getD_getElem?, Array.getElem?_append, if_pos hlt]
        simp [hlt]
      rw [e]
      exact this

/-- The end of a function's body. -/
def Fin (E : Env) (fn : Func) (W : Nat → Prop) (s0 : St) (r : AV) (s' : St) : Exit → Slots → St → Prop := fun e T s1 =>
  (e = .normal ∨ e = .ret) ∧ ares E T s1 fn.results = some r ∧ Below s'.nx r ∧ (s0.nx ≤ s1.nx → (∀ id, id < s0.nx → ¬ W id → s1.get id = s0.get id) → Ends W s0 s1 s')

theorem FT.intro {E : Env} {W : Nat → Prop} {f : FuncId} {fn : Func} {c : Code} {args : List AV} {r : AV} (hf : E.P.funcs[f]? = some fn) (hname : (fn.name == "runtime.NumGoroutine") = false) (hb : fn.body = some c)
    (hl : args.length ≤ fn.ntmps) (h : ∀ μ w, CT ⟨E, s.nx, W, fn.ntmps, μ, s, w⟩ c (Fin E fn W s r s') (T0 0 args) s) : FT E W f args s r s' := by
  refine ⟨⟨fn, hf, hname, by rw [hb]; rfl⟩, fun μ w vs hR hvs => ?_⟩
  refine calls_of_wp hf hb (wp_mono (h μ w μ w _ ⟨hR, ⟨?_, fun i => ?_⟩, rfl, hR.refl⟩) fun e a w' hp => ?_)
  · simp only [Array.size_append, Array.size_replicate]
    have := hvs.1
    omega
  · rw [T0_get]
    simp only [Nat.zero_le, if_true, Nat.sub_zero]
    cases hx : args[i]? with
    | none => exact .junk _
    | some x =>
      have hlt : i < vs.size := by
        rw [← hvs.1]
        exact (List.getElem?_eq_some_iff.1 hx).1
      have := hvs.2 i x vs[i] hx (by simp [hlt])
      have e : (vs ++ Array.replicate (fn.ntmps - vs.size) undef).getD i undef = vs[i] := by
        rw [Array.getD_eq_getD_getElem?, Array.getElem?_append, if_pos hlt]
        simp [hlt]
      rw [e]
      exact this
  · obtain ⟨μ1, T1, s1, hA, he, hr, hB, hE⟩ := hp
    obtain ⟨v, hv1, hv2⟩ := ares_sound hA hr
    have hEnds : Ends W s s1 s' := hE hA.fr.nx fun id hid hW => hA.fr.same id hid fun hm => by
      rcases hm with hm | hm
      · exact hW hm
      · exact absurd hid (Nat.not_lt.2 hm)
    have key : a.defers = [] ∧ ∃ v, (results fn a.tmps).run E.P w' = .ok v w' ∧ ∃ u μ', Ending.returned v = .returned u ∧ VR μ' s' w' r u ∧ Rel E μ' s' w' ∧ Fr s.nx W μ s w μ' s' w' :=
      ⟨hA.de, v, hv1, v, μ1.cut s'.nx, rfl, hv2.reset hB hEnds.get, hEnds.rel hR hA.rel hA.fr, hEnds.fr hA.fr⟩
    rcases he with rfl | rfl
    · exact key
    · exact key

end
end Go.Am
namespace Go.Am

def deps (o : Oper) : List Nat := (o.after.toList.filter (Region.binds .any)).map (·.on)
def dstOf (ops : Array Oper) (j : Nat) : Option Tmp := (ops[j]?).bind (·.dst)

/-- Whether j must come ahead of i. -/
def ancB (ops : Array Oper) : Nat → Nat → Nat → Bool
  | 0, _, _ => false
  | f + 1, i, j => match ops[i]? with
    | none => false
    | some o => (deps o).contains j || (deps o).any fun k => decide (j < k) && ancB ops f k j
inductive Anc (ops : Array Oper) (j : Nat) : Nat → Prop
  | one {i : Nat} {o : Oper} (ho : ops[i]? = some o) (h : j ∈ deps o) : Anc ops j i
  | more {i k : Nat} {o : Oper} (ho : ops[i]? = some o) (h : k ∈ deps o) (hk : Anc ops j k) : Anc ops j i
theorem ancB_spec {ops : Array Oper} {j : Nat} : ∀ (f i : Nat), ancB ops f i j = true → Anc ops j i := by
  intro f
  induction f with
  | zero => intro i h; cases h
  | succ f ih =>
    intro i h
    simp only [ancB] at h
    split at h
    · cases h
    · rename_i o ho
      simp only [Bool.or_eq_true, List.contains_eq_mem, decide_eq_true_eq, List.any_eq_true, Bool.and_eq_true] at h
      rcases h with h | ⟨k, hk, _, h⟩
      · exact .one ho h
      · exact .more ho hk (ih k h)

/-- The first m operations may come in any order, each after what it looks at; the others come behind all that is ahead of them. -/
def anyOk (ops : Array Oper) (m : Nat) : Bool :=
  decide (m ≤ ops.size) && (List.range ops.size).all fun i => match ops[i]? with
    | none => true
    | some o => (deps o).all (fun j => decide (j < i)) &&
      (if i < m then (List.range m).all fun j => match dstOf ops j with
        | none => true
        | some d => (j == i || dstOf ops i != some d) && (!(o.looksAt ops).contains d || (deps o).contains j || (decide (i < j) && ancB ops 64 j i))
      else (List.range i).all fun j => ancB ops 64 i j)

structure AnyOk (ops : Array Oper) (m : Nat) : Prop where
  le : m ≤ ops.size
  back : ∀ i o, ops[i]? = some o → ∀ j ∈ deps o, j < i
  sole : ∀ i j d, i < m → j < m → dstOf ops i = some d → dstOf ops j = some d → j = i
  look : ∀ i o j d, ops[i]? = some o → i < m → j < m → dstOf ops j = some d → d ∈ o.looksAt ops → j ∈ deps o ∨ (i < j ∧ Anc ops i j)
  tail : ∀ i o j, ops[i]? = some o → m ≤ i → j < i → Anc ops j i

theorem anyOk_spec {ops : Array Oper} {m : Nat} (h : anyOk ops m = true) : AnyOk ops m := by
  simp only [anyOk, Bool.and_eq_true, decide_eq_true_eq, List.all_eq_true, List.mem_range] at h
  obtain ⟨h0, h⟩ := h
  have get : ∀ i o, ops[i]? = some o → i < ops.size := fun i o ho => (Array.getElem?_eq_some_iff.1 ho).1
  refine ⟨h0, fun i o ho j hj => ?_, fun i j d hi hj hdi hdj => ?_, fun i o j d ho hi hj hd hl => ?_, fun i o j ho hi hj => ?_⟩
  · have := h i (get i o ho)
    simp only [ho, Bool.and_eq_true, List.all_eq_true, decide_eq_true_eq] at this
    exact this.1 j hj
  · have hi' : i < ops.size := Nat.lt_of_lt_of_le hi h0
    have := h i hi'
    simp only [Array.getElem?_eq_getElem hi', Bool.and_eq_true, if_pos hi, List.all_eq_true, List.mem_range] at this
    have := this.2 j hj
    simp only [hdj, Bool.and_eq_true, Bool.or_eq_true, beq_iff_eq, hdi, bne_self_eq_false, Bool.false_eq_true, or_false] at this
    exact this.1
  · have := h i (get i o ho)
    simp only [ho, Bool.and_eq_true, if_pos hi, List.all_eq_true, List.mem_range] at this
    have := this.2 j hj
    simp only [hd, Bool.and_eq_true, Bool.or_eq_true, Bool.not_eq_true', List.contains_eq_mem, decide_eq_true_eq, decide_eq_false_iff_not] at this
    rcases this.2 with (hn | h1) | ⟨h1, h2⟩
    · exact absurd hl hn
    · exact .inl h1
    · exact .inr ⟨h1, ancB_spec _ _ h2⟩
  · have := h i (get i o ho)
    simp only [ho, Bool.and_eq_true, if_neg (Nat.not_lt.2 hi), List.all_eq_true, List.mem_range] at this
    exact ancB_spec _ _ (this.2 j hj)

/-- What is listed has all that must be ahead of it. -/
def Closed (ops : Array Oper) (listed : Array Bool) : Prop := ∀ i o, ops[i]? = some o → listed.getD i false = true → ∀ j ∈ deps o, listed.getD j false = true
theorem Closed.anc {ops : Array Oper} {listed : Array Bool} (h : Closed ops listed) {j i : Nat} (ha : Anc ops j i) (hr : i ∈ Region.ready .any ops listed ∨ listed.getD i false = true) : listed.getD j false = true := by
  have dep : ∀ i o k, ops[i]? = some o → k ∈ deps o → (i ∈ Region.ready .any ops listed ∨ listed.getD i false = true) → listed.getD k false = true := fun i o k ho hk hr => by
    rcases hr with hr | hr
    · obtain ⟨_, o', ho', hall⟩ := mem_ready.1 hr
      rw [ho] at ho'
      obtain rfl := Option.some.inj ho'
      simp only [deps, List.mem_map, List.mem_filter] at hk
      obtain ⟨e, ⟨he, hb⟩, rfl⟩ := hk
      exact hall e (by simpa using he) hb
    · exact h i o ho hr k hk
  induction ha with
  | one ho hj => exact dep _ _ _ ho hj hr
  | more ho hk _ ih => exact ih (.inr (dep _ _ _ ho hk hr))
theorem Closed.add {ops : Array Oper} {listed : Array Bool} (h : Closed ops listed) {i : Nat} (hr : i ∈ Region.ready .any ops listed) : Closed ops (listed.setIfInBounds i true) := by
  intro k o ho hk j hj
  by_cases e : k = i
  · subst e
    exact getD_set_true (h.anc (.one ho hj) (.inl hr))
  · rw [getD_set_ne false (Ne.symm e)] at hk
    exact getD_set_true (h k o ho hk j hj)

/-- The operations that leave the state as it is, in turn. -/
inductive OQ (C : Cx) (ops : Array Oper) (s : St) : List Nat → Slots → Slots → Prop
  | nil {T : Slots} : OQ C ops s [] T T
  | step {i : Nat} {rest : List Nat} {T T' : Slots} {o : Oper} {r : AV} (ho : ops[i]? = some o) (hw : awanted ops T o = some true) (hd : o.dst.all (fun i => decide (i < C.nt)) = true)
    (h : StepS C o T s r s) (k : OQ C ops s rest (T.put o.dst r) T') : OQ C ops s (i :: rest) T T'
  | skip {i : Nat} {rest : List Nat} {T T' : Slots} {o : Oper} (ho : ops[i]? = some o) (hw : awanted ops T o = some false) (hd : o.dst.all (fun i => decide (i < C.nt)) = true)
    (k : OQ C ops s rest (T.put o.dst (.tup [])) T') : OQ C ops s (i :: rest) T T'

structure OpI (C : Cx) (ops : Array Oper) (s : St) (j : Nat) (o : Oper) (T : Slots) (r : AV) : Prop where
  get : ops[j]? = some o
  dst : o.dst.all (fun i => decide (i < C.nt)) = true
  out : (awanted ops T o = some true ∧ StepS C o T s r s) ∨ (awanted ops T o = some false ∧ r = .tup [])

section
variable {C : Cx} {ops : Array Oper} {Q : Exit → Slots → St → Prop} {T T' : Slots} {s s' : St} {a : Act} {w : World} {μ : Mu}

theorem OQ.res : ∀ {k i : Nat} {T T' : Slots}, OQ C ops s (List.range' i k) T T' → ∃ (res : Nat → AV) (Ts : Nat → Slots), Ts i = T ∧ Ts (i + k) = T' ∧
    ∀ j, i ≤ j → j < i + k → (∃ o, OpI C ops s j o (Ts j) (res j)) ∧ Ts (j + 1) = (Ts j).put (dstOf ops j) (res j) := by
  intro k
  induction k with
  | zero => intro i T T' h; cases h; exact ⟨fun _ => .junk, fun _ => T, rfl, rfl, fun j h1 h2 => by omega⟩
  | succ k ih =>
    intro i T T' h
    rw [List.range'_succ] at h
    have fin : ∀ (o : Oper) (r : AV), OpI C ops s i o T r → OQ C ops s (List.range' (i + 1) k) (T.put o.dst r) T' → ∃ (res : Nat → AV) (Ts : Nat → Slots), Ts i = T ∧ Ts (i + (k + 1)) = T' ∧
        ∀ j, i ≤ j → j < i + (k + 1) → (∃ o, OpI C ops s j o (Ts j) (res j)) ∧ Ts (j + 1) = (Ts j).put (dstOf ops j) (res j) := fun o r hO hk => by
      obtain ⟨res, Ts, h1, h2, h3⟩ := ih hk
      refine ⟨fun j => if j = i then r else res j, fun j => if j = i then T else Ts j, by simp, ?_, fun j hj1 hj2 => ?_⟩
      · show (if i + (k + 1) = i then T else Ts (i + (k + 1))) = T'
        rw [if_neg (by omega), ← h2]; congr 1; omega
      · by_cases e : j = i
        · subst e
          simp only [if_true]
          refine ⟨⟨o, hO⟩, ?_⟩
          rw [if_neg (by omega), h1]
          simp [dstOf, hO.get]
        · simp only [if_neg e, if_neg (show ¬ j + 1 = i by omega)]
          exact h3 j (by omega) (by omega)
    cases h with
    | step ho hw hd h k => exact fin _ _ ⟨ho, hd, .inl ⟨hw, h⟩⟩ k
    | skip ho hw hd k => exact fin _ _ ⟨ho, hd, .inr ⟨hw, rfl⟩⟩ k

theorem get_put (T : Slots) (d : Option Tmp) (r : AV) (t : Nat) : (T.put d r).get t = if d = some t then r else T.get t := by
  cases d with
  | none => rfl
  | some d =>
    simp only [Slots.put, Slots.get_set, Option.some.injEq]
    by_cases e : t = d
    · subst e; simp
    · rw [if_neg e, if_neg (Ne.symm e)]

theorem Ts_get {m : Nat} {res : Nat → AV} {Ts : Nat → Slots} (ok : AnyOk ops m) (h : ∀ j, j < m → Ts (j + 1) = (Ts j).put (dstOf ops j) (res j)) (t : Nat) :
    ∀ j, j ≤ m → (∀ l, l < j → dstOf ops l = some t → (Ts j).get t = res l) ∧ ((∀ l, l < j → dstOf ops l ≠ some t) → (Ts j).get t = (Ts 0).get t) := by
  intro j
  induction j with
  | zero => exact fun _ => ⟨fun l hl => by omega, fun _ => rfl⟩
  | succ j ih =>
    intro hj
    obtain ⟨h1, h2⟩ := ih (by omega)
    rw [h j (by omega), get_put]
    refine ⟨fun l hl hd => ?_, fun hn => ?_⟩
    · by_cases e : l = j
      · subst e; rw [if_pos hd]
      · rw [if_neg fun hd' => e (ok.sole j l t (by omega) (by omega) hd' hd)]
        exact h1 l (by omega) hd
    · rw [if_neg (hn j (by omega))]
      exact h2 fun l hl => hn l (by omega)

/-- The slots that an operation looks at, alone. -/
def only (ts : List Tmp) (T : Slots) : Slots := ts.map fun t => (t, T.get t)
theorem only_get (ts : List Tmp) (T : Slots) (t : Nat) : (only ts T).get t = if t ∈ ts then T.get t else .junk := by
  unfold only
  induction ts with
  | nil => rfl
  | cons x l ih =>
    simp only [List.map_cons, Slots.get, ih, List.mem_cons]
    by_cases e : t = x
    · subst e; simp
    · simp [e]

theorem only_ev (E : Env) (T : Slots) (o : Oper) (x : Operand) (hx : x ∈ o.op.operands) : ev E (only (o.looksAt ops) T) x = ev E T x := by
  cases x with
  | tmp t =>
    simp only [ev, only_get]
    rw [if_pos]
    exact List.mem_append_left _ (List.mem_filterMap.2 ⟨.tmp t, by simpa using hx, rfl⟩)
  | _ => rfl
theorem only_wanted (T : Slots) (o : Oper) : awanted ops (only (o.looksAt ops) T) o = awanted ops T o := by
  unfold awanted
  cases hg : o.guard with
  | none => rfl
  | some gw =>
    obtain ⟨g, want⟩ := gw
    simp only []
    cases ht : (ops[g]?).bind (·.dst) with
    | none => rfl
    | some t =>
      simp only [only_get]
      rw [if_pos (by simp [Oper.looksAt, hg, ht])]

theorem mem_deps {o : Oper} {j : Nat} : j ∈ deps o ↔ ∃ e ∈ o.after, Region.binds .any e = true ∧ e.on = j := by
  simp [deps, List.mem_map, List.mem_filter, and_assoc]

/-- What stands behind all the rest comes in turn. -/
theorem tail_any {P : Program} {m : Nat} {X : Exit → Act → World → Prop} (ok : AnyOk ops m) : ∀ (l i fuel : Nat) (listed : Array Bool) (a : Act) (w : World), i + l = ops.size → m ≤ i → l ≤ fuel →
    listed.size = ops.size → Closed ops listed → (∀ j, j < ops.size → listed.getD j true = decide (j < i)) → wpOps P ops X (List.range' i l) a w → wpAny P .any ops X fuel listed a w := by
  intro l
  induction l with
  | zero =>
    intro i fuel listed a w hi hm _ hs hcl hl h
    refine wpAny_done ?_ h fuel
    refine List.eq_nil_iff_forall_not_mem.2 fun j hj => ?_
    obtain ⟨h0, o, ho, _⟩ := mem_ready.1 hj
    have hlt := (Array.getElem?_eq_some_iff.1 ho).1
    rw [hl j hlt] at h0
    simp at h0; omega
  | succ l ih =>
    intro i fuel listed a w hi hm hf hs hcl hl h
    obtain ⟨fuel, rfl⟩ : ∃ k, fuel = k + 1 := ⟨fuel - 1, by omega⟩
    have hi' : i < ops.size := by omega
    have hgo : ops[i]? = some ops[i] := Array.getElem?_eq_getElem hi'
    have true_of : ∀ j, j < ops.size → j < i → listed.getD j false = true := fun j h1 h2 => by
      have := hl j h1
      have hlt : j < listed.size := by omega
      simp only [Array.getD_eq_getD_getElem?, Array.getElem?_eq_getElem hlt, Option.getD_some] at this ⊢
      rw [this]; simpa using h2
    have hin : i ∈ Region.ready .any ops listed := by
      refine mem_ready.2 ⟨by rw [hl i hi']; simp, _, hgo, fun e he hb => ?_⟩
      have hlt := ok.back i _ hgo e.on (mem_deps.2 ⟨e, he, hb, rfl⟩)
      exact true_of _ (by omega) hlt
    refine ⟨fun h0 => (by rw [h0] at hin; cases hin), fun j hj => ?_⟩
    obtain ⟨h0, o, ho, hall⟩ := mem_ready.1 hj
    have hjlt := (Array.getElem?_eq_some_iff.1 ho).1
    have hji : j = i := by
      rw [hl j hjlt] at h0
      have h1 : ¬ j < i := by simpa using h0
      refine Nat.le_antisymm (Nat.le_of_not_lt fun h2 => ?_) (Nat.le_of_not_lt h1)
      have h3 := hcl.anc (ok.tail j o i ho (by omega) h2) (.inl hj)
      have := hl i hi'
      have hlt : i < listed.size := by omega
      simp only [Array.getD_eq_getD_getElem?, Array.getElem?_eq_getElem hlt, Option.getD_some] at this h3
      rw [h3] at this
      simp at this
    subst hji
    rw [List.range'_succ, wpOps_cons] at h
    refine wpOp_mono (fun a w hk => ih (j + 1) fuel _ a w (by omega) (by omega) (by omega) (by simp [hs]) (hcl.add hin) (fun k hk => ?_) hk) h
    by_cases e : k = j
    · subst e
      simp [hs, hk]
    · have := getD_set_ne (listed := listed) true (Ne.symm e)
      rw [this, hl k hk]
      by_cases h1 : k < j
      · simp [h1]; omega
      · simp [h1]; omega

theorem countP_lt {p q : Nat → Bool} {i : Nat} : ∀ (l : List Nat), (∀ x ∈ l, q x = true → p x = true) → i ∈ l → p i = true → q i = false → l.countP q < l.countP p := by
  intro l
  induction l with
  | nil => intro _ h; cases h
  | cons x l ih =>
    intro hpq hi hp hq
    have hle : l.countP q ≤ l.countP p := List.countP_mono_left fun y hy h => hpq y (List.mem_cons_of_mem _ hy) h
    rcases List.mem_cons.1 hi with rfl | hi
    · simp only [List.countP_cons, hp, hq, if_true, Bool.false_eq_true, if_false]; omega
    · have := ih (fun y hy => hpq y (List.mem_cons_of_mem _ hy)) hi hp hq
      simp only [List.countP_cons]
      have hx := hpq x List.mem_cons_self
      cases h1 : q x
      · simp; omega
      · simp [hx h1]; omega

structure Inv (C : Cx) (ops : Array Oper) (m : Nat) (res : Nat → AV) (T : Slots) (s : St) (listed : Array Bool) (a : Act) (w : World) (μ : Mu) : Prop where
  size : listed.size = ops.size
  rel : Rel C.E μ s w
  de : a.defers = []
  fr : Fr C.n0 C.W C.μ C.s C.w μ s w
  nt : a.tmps.size = C.nt
  old : ∀ t, (∀ l, l < m → dstOf ops l = some t → listed.getD l false = false) → VR μ s w (T.get t) (a.tmps.getD t undef)
  new : ∀ l, l < m → listed.getD l false = true → ∀ t, dstOf ops l = some t → VR μ s w (res l) (a.tmps.getD t undef)
  tail : ∀ i, m ≤ i → i < ops.size → listed.getD i true = false
  closed : Closed ops listed

theorem any_sound {m : Nat} {res : Nat → AV} {Ts : Nat → Slots} (ok : AnyOk ops m) (hT0 : Ts 0 = T) (hI : ∀ j, j < m → (∃ o, OpI C ops s j o (Ts j) (res j)) ∧ Ts (j + 1) = (Ts j).put (dstOf ops j) (res j))
    (hk : OT C ops Q (List.range' m (ops.size - m)) (Ts m) s) : ∀ (fuel : Nat) (listed : Array Bool) (a : Act) (w : World) (μ : Mu), Inv C ops m res T s listed a w μ →
    (List.range m).countP (fun j => !listed.getD j true) + (ops.size - m) ≤ fuel → wpAny C.E.P .any ops (Post C Q) fuel listed a w := by
  have hTs := Ts_get ok (fun j hj => (hI j hj).2)
  have hle := ok.le
  intro fuel
  have both : ∀ (listed : Array Bool) j, listed.size = ops.size → j < ops.size → listed.getD j true = listed.getD j false := fun listed j h1 h2 => by
    have hlt : j < listed.size := by omega
    simp [Array.getElem?_eq_getElem hlt]
  have all_listed : ∀ (fuel : Nat) (listed : Array Bool) (a : Act) (w : World) (μ : Mu), Inv C ops m res T s listed a w μ → (ops.size - m) ≤ fuel → (∀ j, j < m → listed.getD j true = true) → wpAny C.E.P .any ops (Post C Q) fuel listed a w := by
    intro fuel listed a w μ hv hf hall
    refine tail_any ok (ops.size - m) m fuel listed a w (by omega) (Nat.le_refl _) hf hv.size hv.closed (fun j hj => ?_) (hk μ w a ⟨hv.rel, ⟨hv.nt, fun t => ?_⟩, hv.de, hv.fr⟩)
    · by_cases h : j < m
      · rw [hall j h]; simp [h]
      · rw [hv.tail j (by omega) hj]; simp [h]
    · obtain ⟨h1, h2⟩ := hTs t m (Nat.le_refl _)
      by_cases hx : ∃ l, l < m ∧ dstOf ops l = some t
      · obtain ⟨l, hl, hd⟩ := hx
        rw [h1 l hl hd]
        exact hv.new l hl (by rw [← both listed l hv.size (by omega)]; exact hall l hl) t hd
      · have hn : ∀ l, l < m → dstOf ops l ≠ some t := fun l hl hd => hx ⟨l, hl, hd⟩
        rw [h2 hn, hT0]
        exact hv.old t fun l hl hd => absurd hd (hn l hl)
  induction fuel with
  | zero =>
    intro listed a w μ hv hf
    refine all_listed 0 listed a w μ hv (by omega) fun j hj => ?_
    have h0 : (List.range m).countP (fun j => !listed.getD j true) = 0 := by omega
    have := List.countP_eq_zero.1 h0 j (List.mem_range.2 hj)
    simpa using this
  | succ fuel ih =>
    intro listed a w μ hv hf
    by_cases hall : ∀ j, j < m → listed.getD j true = true
    · exact all_listed _ listed a w μ hv (by omega) hall
    have hun : ∃ j, j < m ∧ listed.getD j true = false := by
      refine Classical.byContradiction fun h => hall fun j hj => ?_
      cases hb : listed.getD j true
      · exact absurd ⟨j, hj, hb⟩ h
      · rfl
    obtain ⟨i, ⟨hi, hun⟩, hleast⟩ := least hun
    obtain ⟨⟨o, hO⟩, _⟩ := hI i hi
    have hin : i ∈ Region.ready .any ops listed := by
      refine mem_ready.2 ⟨hun, o, hO.get, fun e he hb => ?_⟩
      have hlt := ok.back i o hO.get e.on (mem_deps.2 ⟨e, he, hb, rfl⟩)
      rw [← both listed e.on hv.size (by omega)]
      cases hx : listed.getD e.on true
      · exact absurd (hleast e.on ⟨by omega, hx⟩) (by omega)
      · rfl
    refine ⟨fun h0 => (by rw [h0] at hin; cases hin), fun j hj => ?_⟩
    clear hO hin
    obtain ⟨h0, o, ho, hdep⟩ := mem_ready.1 hj
    have hjlt := (Array.getElem?_eq_some_iff.1 ho).1
    have hjm : j < m := by
      refine Nat.lt_of_not_le fun hle => ?_
      have := hv.closed.anc (ok.tail j o i ho hle (by omega)) (.inl hj)
      rw [← both listed i hv.size (by omega), hun] at this
      cases this
    obtain ⟨⟨o', hO⟩, hput⟩ := hI j hjm
    obtain rfl : o' = o := by
      have := hO.get
      rw [ho] at this
      exact (Option.some.inj this).symm
    have hA : At C (only (o'.looksAt ops) (Ts j)) s a w μ := by
      refine ⟨hv.rel, ⟨hv.nt, fun t => ?_⟩, hv.de, hv.fr⟩
      rw [only_get]
      split
      · rename_i ht
        obtain ⟨h1, h2⟩ := hTs t j (by omega)
        by_cases hx : ∃ l, l < m ∧ dstOf ops l = some t
        · obtain ⟨l, hl, hd⟩ := hx
          rcases ok.look j o' l t ho hjm hl hd ht with hld | ⟨hjl, hanc⟩
          · have hlj := ok.back j o' ho l hld
            rw [h1 l hlj hd]
            obtain ⟨e, he, hb, hon⟩ := mem_deps.1 hld
            exact hv.new l hl (hon ▸ hdep e he hb) t hd
          · rw [h2 fun l' hl' hd' => absurd (ok.sole l l' t hl (by omega) hd hd') (by omega), hT0]
            refine hv.old t fun l' hl' hd' => ?_
            obtain rfl := ok.sole l l' t hl hl' hd hd'
            cases hx : listed.getD l' false
            · rfl
            · have := hv.closed.anc hanc (.inr hx)
              rw [← both listed j hv.size hjlt, h0] at this
              cases this
        · have hn : ∀ l, l < m → dstOf ops l ≠ some t := fun l hl hd => hx ⟨l, hl, hd⟩
          rw [h2 fun l hl => hn l (by omega), hT0]
          exact hv.old t fun l hl hd => absurd hd (hn l hl)
      · exact .junk _
    have hdst : dstOf ops j = o'.dst := by simp [dstOf, ho]
    have next : ∀ v w' μ', VR μ' s w' (res j) v → Rel C.E μ' s w' → Fr C.n0 C.W μ s w μ' s w' → wpAny C.E.P .any ops (Post C Q) fuel (listed.setIfInBounds j true) (a.put o'.dst v) w' := fun v w' μ' h1 h2 h3 => by
      have hsame : ∀ t, o'.dst ≠ some t → (a.put o'.dst v).tmps.getD t undef = a.tmps.getD t undef := fun t ht => by
        cases hd : o'.dst with
        | none => rfl
        | some d =>
          have hne : d ≠ t := fun e => ht (by rw [hd, e])
          simp [Act.put, Array.getElem?_setIfInBounds_ne hne]
      refine ih _ _ _ μ' ⟨by simp [hv.size], h2, ?_, hv.fr.trans h3, ?_, fun t hn => ?_, fun l hl hlist t hd => ?_, fun k hk1 hk2 => ?_, hv.closed.add hj⟩ ?_
      · cases o'.dst <;> exact hv.de
      · cases hd : o'.dst <;> simp [Act.put, hv.nt]
      · have hjs : (listed.setIfInBounds j true).getD j false = true := by
          have hlt : j < listed.size := by rw [hv.size]; omega
          simp [hlt]
        rw [hsame t fun hd' => by
          have := hn j hjm (hdst.trans hd')
          rw [hjs] at this
          cases this]
        refine (hv.old t fun l hl hd => ?_).mono h3
        have h5 := hn l hl hd
        by_cases e : l = j
        · subst e; rw [hjs] at h5; cases h5
        · rwa [getD_set_ne false (Ne.symm e)] at h5
      · by_cases e : l = j
        · subst e
          rw [hdst] at hd
          have hlt : t < C.nt := by
            have := hO.dst
            rw [hd] at this
            simpa using this
          have : (a.put o'.dst v).tmps.getD t undef = v := by
            have hlt2 : t < a.tmps.size := by rw [hv.nt]; exact hlt
            simp [hd, Act.put, hlt2]
          rw [this]
          exact h1
        · rw [getD_set_ne false (Ne.symm e)] at hlist
          rw [hsame t fun hd' => e (ok.sole j l t hjm hl (hdst.trans hd') hd)]
          exact (hv.new l hl hlist t hd).mono h3
      · rw [getD_set_ne true (by omega)]
        exact hv.tail k hk1 hk2
      · have : (List.range m).countP (fun k => !(listed.setIfInBounds j true).getD k true) < (List.range m).countP (fun k => !listed.getD k true) := by
          refine countP_lt (i := j) _ (fun x _ hx => ?_) (List.mem_range.2 hjm) (by simp [h0]) ?_
          · by_cases e : x = j
            · subst e; simp [h0]
            · rw [getD_set_ne true (Ne.symm e)] at hx; exact hx
          · have hlt : j < listed.size := by rw [hv.size]; omega
            simp [hlt]
        omega
    unfold wpOp
    simp only [ho]
    rcases hO.out with ⟨hw, hS⟩ | ⟨hw, hr⟩
    · rw [awanted_sound hA.tr (by rw [only_wanted]; exact hw)]
      simp only [if_true]
      exact .inl ((hS.congr fun x hx => (only_ev C.E (Ts j) o' x hx).symm).one μ w a hA _ _ next)
    · rw [awanted_sound hA.tr (by rw [only_wanted]; exact hw)]
      simp only [Bool.false_eq_true, if_false]
      exact next undef w μ (by rw [hr]; exact VR.undef) hA.rel hA.rel.refl

/-- A region in any order. -/
theorem CT.any (m : Nat) {id : Nat} (hm : C.E.P.follows .mixedOrders = true) (hok : anyOk ops m = true) (hq : OQ C ops s (List.range' 0 m) T T') (hk : OT C ops Q (List.range' m (ops.size - m)) T' s) :
    CT C (.region id ops true) Q T s := fun μ w a hA => by
  have ok := anyOk_spec hok
  obtain ⟨res, Ts, h1, h2, h3⟩ := hq.res
  simp only [Nat.zero_add] at h2
  subst h2
  refine wp_region_any hm (any_sound ok h1 (fun j hj => h3 j (Nat.zero_le _) (by omega)) hk ops.size _ a _ μ
    ⟨by simp, hA.rel.drew _, hA.de, hA.fr.trans (Fr.drew hA.rel _), hA.tr.1, fun t _ => (hA.tr.2 t).mono (Fr.drew (n0 := 0) (W := fun _ => False) hA.rel _), fun l hl hlist => ?_, fun i h1 h2 => by simp [h2], fun i o ho hl => by
      have hlt := (Array.getElem?_eq_some_iff.1 ho).1
      simp [hlt] at hl⟩ ?_)
  · have hle := ok.le
    have : l < ops.size := by omega
    simp [this] at hlist
  · have hle := ok.le
    have : (List.range m).countP (fun j => !(Array.replicate ops.size false).getD j true) ≤ m := by
      have := List.countP_le_length (p := fun j => !(Array.replicate ops.size false).getD j true) (l := List.range m)
      simpa using this
    omega
theorem CT.keep (ts : List Tmp) {c : Code} (h : CT C c Q (only ts T) s) : CT C c Q T s :=
  CT.weak _ (fun i => by
    rw [only_get]
    by_cases hi : i ∈ ts
    · exact .inr (by rw [if_pos hi])
    · exact .inl (by rw [if_neg hi])) h
end
end Go.Am
namespace Go.Am
section
variable {C : Cx} {T T' : Slots} {s s' : St} {a : Act} {w : World} {μ : Mu} {n : Nat}
theorem Mu.del_some {p : Addr × Nat} {id : Nat} (h : (μ.del n) id = some p) : id ≠ n ∧ μ id = some p := by
  unfold Mu.del at h
  split at h
  · cases h
  · exact ⟨‹_›, h⟩
theorem Mu.del_of {id : Nat} (h : id ≠ n) : (μ.del n) id = μ id := if_neg h
theorem St.drop_some {o : AObj} {id : Nat} (h : (s.drop n).get id = some o) : id ≠ n ∧ s.get id = some o := by
  rw [St.get_drop] at h
  split at h
  · cases h
  · exact ⟨‹_›, h⟩
/-- An object forgotten: what mentions it says nothing of it any more. -/
theorem VR.del {x : AV} {v : Value} (h : VR μ s w x v) : VR (μ.del n) (s.drop n) w x v := by
  have hfree : ∀ b, μ.free b → (μ.del n).free b := fun b hm id p hp => hm id p (Mu.del_some hp).2
  induction h with
  | junk v => exact .junk v
  | bool b => exact .bool b
  | int k n => exact .int k n
  | str b => exact .str b
  | agg cs vs hl _ ih => exact .agg cs vs hl ih
  | tup cs vs hl _ ih => exact .tup cs vs hl ih
  | nsl => exact .nsl
  | slnil a => exact .slnil a
  | sl xs a cap sz vs hb hm hsp hcap hsz hc _ ih => exact .sl xs a cap sz vs hb (hfree _ hm) hsp hcap hsz hc ih
  | np => exact .np
  | rp cs a vs hb hm hc _ ih => exact .rp cs a vs hb (hfree _ hm) hc ih
  | ptr id off v h1 hn h => exact .ptr id off v h1 hn fun o ho => by obtain ⟨e, ho⟩ := St.drop_some ho; rw [Mu.del_of e]; exact h o ho
  | ep id i j v h1 hn h => exact .ep id i j v h1 hn fun sz wr es ho => by obtain ⟨e, ho⟩ := St.drop_some ho; rw [Mu.del_of e]; exact h sz wr es ho
  | ls id off len v h1 hn h => exact .ls id off len v h1 hn fun sz wr es ho => by obtain ⟨e, ho⟩ := St.drop_some ho; rw [Mu.del_of e]; exact h sz wr es ho
  | map id v h1 hn h => exact .map id v h1 hn fun o ho => by obtain ⟨e, ho⟩ := St.drop_some ho; rw [Mu.del_of e]; exact h o ho
  | nmap => exact .nmap
  | fn f a b va vb hla hlb _ _ iha ihb => exact .fn f a b va vb hla hlb iha ihb
  | nfn => exact .nfn
  | ifc t x v _ ih => exact .ifc t x v ih
  | nif => exact .nif
  | it id v h1 hn h => exact .it id v h1 hn fun o ho => by obtain ⟨e, ho⟩ := St.drop_some ho; rw [Mu.del_of e]; exact h o ho
theorem ORel.del {p : Addr × Nat} {o : AObj} (h : ORel μ s w p o) : ORel (μ.del n) (s.drop n) w p o := by
  cases o with
  | var ty cs =>
    obtain ⟨h1, h2, vs, t, h3, ⟨h4, h5⟩, h6⟩ := h
    exact ⟨h1, h2, vs, t, h3, ⟨h4, fun i x v hx hv => (h5 i x v hx hv).del⟩, h6⟩
  | row sz wr es =>
    obtain ⟨h1, vs, t, lo, hi, h2, h3, h4, h5, h6, h7, h8⟩ := h
    refine ⟨h1, vs, t, lo, hi, h2, h3, h4, h5, h6, h7, fun i j x hx => ?_⟩
    obtain ⟨v, h9, h10⟩ := h8 i j x hx
    exact ⟨v, h9, h10.del⟩
  | map es =>
    obtain ⟨h1, h2, ents, clk, h3, h4, h5⟩ := h
    exact ⟨h1, h2, ents, clk, h3, h4, fun i x e hx he => ⟨(h5 i x e hx he).1.del, (h5 i x e hx he).2.del⟩⟩
  | siter str pos => exact h
theorem Rel.del {E : Env} (R : Rel E μ s w) : Rel E (μ.del n) (s.drop n) w where
  obj id p hp := by
    obtain ⟨e, hp⟩ := Mu.del_some hp
    obtain ⟨h1, o, h2, h3⟩ := R.obj id p hp
    exact ⟨h1, o, by rw [St.get_drop, if_neg e]; exact h2, h3.del⟩
  inj i j p q hi hj hb := R.inj i j p q (Mu.del_some hi).2 (Mu.del_some hj).2 hb
  lo i p hp := R.lo i p (Mu.del_some hp).2
  gl := R.gl
  size := R.size
  tape := R.tape
  os := R.os
theorem Fr.del {n0 : Nat} {W : Nat → Prop} {μ0 : Mu} {s0 : St} {w0 : World} (F : Fr n0 W μ0 s0 w0 μ s w) (h0 : May n0 W n) : Fr n0 W μ0 s0 w0 (μ.del n) (s.drop n) w where
  os := F.os
  tape := F.tape
  output := F.output
  size := F.size
  nx := F.nx
  blocks := F.blocks
  keep id p hid hp ho := by
    obtain ⟨o, ho⟩ := ho
    obtain ⟨e, ho⟩ := St.drop_some ho
    rw [Mu.del_of e]
    exact F.keep id p hid hp ⟨o, ho⟩
  old id p hid hp := F.old id p hid (Mu.del_some hp).2
  new id p hid hp := F.new id p hid (Mu.del_some hp).2
  shape id o hid ho := F.shape id o hid (St.drop_some ho).2
  same id hid hm := by
    have e : id ≠ n := fun e => by subst e; exact hm h0
    rw [St.get_drop, if_neg e]
    exact F.same id hid hm
/-- A whole row of the call's own, read only from here on. -/
theorem VR.fz {E : Env} (R : Rel E μ s w) {sz : Nat} {k : RK} {es : List (List AV)} (hs : s.get n = some (.row sz k es)) {v : Value} (hv : VR μ s w (.ls n 0 es.length) v) : VR (μ.del n) (s.drop n) w (.sl es) v := by
  cases hv with
  | ls _ _ _ _ h1 hid hp =>
  rcases hp _ _ _ hs with ⟨h0, a, rfl⟩ | ⟨p, cap, hq, rfl, hlc, hcr⟩
  · have : es = [] := List.eq_nil_of_length_eq_zero h0
    subst this
    exact .slnil a
  · obtain ⟨_, o, ho, hr⟩ := R.obj n p hq
    obtain rfl : o = .row sz k es := Option.some.inj (ho.symm.trans hs)
    have hbl := hr.block_lt
    obtain ⟨hsp, us, t, lo, hi, hh, _, _, hroom, hroom2, hall2, hx⟩ := hr
    rw [Nat.zero_mul]
    refine .sl es (p.1.add 0) cap sz (fun i j => (us[p.1.off + (i * sz + j)]?).getD Go.undef) (by rw [Addr.add_zero]; exact hbl) (fun id' q hq' e => ?_) (fun _ => Addr.add_spot hsp 0) hlc hall2 (fun i j y hy => ?_) (fun i j y hy => ?_)
    · obtain ⟨e1, hq'⟩ := Mu.del_some hq'
      exact e1 (R.inj id' n q p hq' hq (by rw [Addr.add_zero] at e; exact e))
    · obtain ⟨u, hu, _⟩ := hx i j y hy
      rw [Addr.add_zero, cell_of_heap hh hsp, hu]; rfl
    · obtain ⟨u, hu, hvu⟩ := hx i j y hy
      rw [hu]; exact hvu.del
section
variable {s2 : St}
theorem Fr.ext {n0 : Nat} {W : Nat → Prop} (h0 : ∀ id p, μ id = some p → id < s.nx) (h : s.nx ≤ s2.nx) (hg : ∀ id, id < s.nx → s2.get id = s.get id) : Fr n0 W μ s w μ s2 w where
  os := rfl
  tape := rfl
  output := rfl
  size := Nat.le_refl _
  nx := h
  blocks _ _ _ := rfl
  keep _ _ _ h _ := h
  old _ _ _ h := h
  new id p hn hp := absurd (h0 id p hp) (by omega)
  shape id o hid ho := ⟨o, by rw [← hg id hid]; exact ho, rfl⟩
  same id hid _ := hg id hid
/-- More objects, of which nothing is known to lie anywhere. -/
theorem At.ext (h : s.nx ≤ s2.nx) (hg : ∀ id, id < s.nx → s2.get id = s.get id) (hA : At C T s a w μ) : At C T s2 a w μ := by
  have F : ∀ {n0 : Nat} {W : Nat → Prop}, Fr n0 W μ s w μ s2 w := fun {n0 W} => Fr.ext hA.rel.lt h hg
  refine ⟨⟨fun i p hp => ?_, hA.rel.inj, hA.rel.lo, hA.rel.gl, hA.rel.size, hA.rel.tape, hA.rel.os⟩, ⟨hA.tr.1, fun i => (hA.tr.2 i).mono (F (n0 := C.n0) (W := C.W))⟩, hA.de, hA.fr.trans F⟩
  obtain ⟨h1, o1, h2, h3⟩ := hA.rel.obj i p hp
  exact ⟨by omega, o1, by rw [hg i h1]; exact h2, h3.mono (F (n0 := C.n0) (W := C.W)) rfl⟩
theorem At.nlrow {i id : Nat} (hT : T.get i = .nsl) (hid : id < s.nx) (hA : At C T s a w μ) : At C (T.set i (.ls id 0 0)) s a w μ := by
  refine ⟨hA.rel, ⟨hA.tr.1, fun j => ?_⟩, hA.de, hA.fr⟩
  rw [Slots.get_set]
  split
  · rename_i e
    subst e
    have := hA.tr.2 j
    rw [hT] at this
    generalize a.tmps.getD j undef = v at this ⊢
    cases this
    exact .ls id 0 0 _ rfl hid fun sz wr es _ => .inl ⟨rfl, none, rfl⟩
  · exact hA.tr.2 j
end
/-- What is known may be told otherwise: a row of the call's own as data; nil as an empty slice's data; a slot forgotten. -/
inductive Gh (n0 : Nat) : Slots → St → Slots → St → Prop
  | refl (T : Slots) (s : St) : Gh n0 T s T s
  | fz {T : Slots} {s : St} {T' : Slots} {s' : St} (i id sz : Nat) (k : RK) (es : List (List AV)) (hT : T.get i = .ls id 0 es.length) (hs : s.get id = some (.row sz k es)) (h0 : n0 ≤ id)
    (h : Gh n0 (T.set i (.sl es)) (s.drop id) T' s') : Gh n0 T s T' s'
  | nl {T : Slots} {s : St} {T' : Slots} {s' : St} (i : Nat) (hT : T.get i = .nsl) (h : Gh n0 (T.set i (.sl [])) s T' s') : Gh n0 T s T' s'
  | nr {T : Slots} {s : St} {T' : Slots} {s' : St} (i : Nat) (o : AObj) (hT : T.get i = .nsl) (h : Gh n0 (T.set i (.ls s.nx 0 0)) (s.push o) T' s') : Gh n0 T s T' s'
  | weak {T T1 : Slots} {s : St} {T' : Slots} {s' : St} (hT : ∀ i, T1.get i = .junk ∨ T1.get i = T.get i) (h : Gh n0 T1 s T' s') : Gh n0 T s T' s'
theorem Slots.get_set' (T : Slots) (i j : Nat) (x : AV) : (T.set i x).get j = if j = i then x else T.get j := rfl
theorem Gh.at (h : Gh C.n0 T s T' s') : ∀ μ w a, At C T s a w μ → ∃ μ', At C T' s' a w μ' := by
  induction h with
  | refl T s => exact fun μ w a h => ⟨μ, h⟩
  | fz i id sz k es hT hs h0 _ ih =>
    intro μ w a h
    refine ih (μ.del id) w a ⟨h.rel.del, ⟨h.tr.1, fun j => ?_⟩, h.de, h.fr.del (.inr h0)⟩
    rw [Slots.get_set']
    split
    · rename_i e
      subst e
      have := h.tr.2 j
      rw [hT] at this
      exact this.fz h.rel hs
    · exact (h.tr.2 j).del
  | nl i hT _ ih =>
    intro μ w a h
    refine ih μ w a ⟨h.rel, ⟨h.tr.1, fun j => ?_⟩, h.de, h.fr⟩
    rw [Slots.get_set']
    split
    · rename_i e
      subst e
      have := h.tr.2 j
      rw [hT] at this
      generalize a.tmps.getD j undef = v at this ⊢
      cases this
      exact .slnil none
    · exact h.tr.2 j
  | nr i o hT _ ih =>
    intro μ w a h
    exact ih μ w a ((h.ext (by simp) fun id hid => by rw [St.get_push, if_neg (Nat.ne_of_lt hid)]).nlrow hT (by simp))
  | weak hT _ ih =>
    intro μ w a h
    refine ih μ w a ⟨h.rel, ⟨h.tr.1, fun i => ?_⟩, h.de, h.fr⟩
    rcases hT i with e | e
    · rw [e]; exact .junk _
    · rw [e]; exact h.tr.2 i
theorem CT.gh {c : Code} {Q : Exit → Slots → St → Prop} (h : Gh C.n0 T s T' s') (hc : CT C c Q T' s') : CT C c Q T s := CT.ghost h.at hc
end
end Go.Am
namespace Go.Am
/-! ### drawn regions in which some operations write: these come in one order among themselves and what looks at the state; the others meet any state -/
/-- (with b: calls of functions, too) -/
def wB (b : Nat) (o : Oper) : Bool := match o.op with
  | .store _ _ _ | .mapUpdate _ _ _ _ | .insert _ _ _ _ => true
  | .buildSlice _ n _ => b == 1 || (b == 2 && n == 0)
  | .call c => match c.callee with
    | .builtin .append | .builtin .copy | .builtin .clear => true
    | .value _ => b != 0
    | _ => false
  | _ => false
def wBi (b : Nat) (ops : Array Oper) (i : Nat) : Bool := match ops[i]? with
  | some o => wB b o
  | none => false
def freeB (b : Nat) (ops : Array Oper) (m i : Nat) : Bool := !(wBi b ops i) && (List.range m).any fun w => wBi b ops w && !(ancB ops 64 i w || ancB ops 64 w i)
def wrOk (b : Nat) (ops : Array Oper) (m : Nat) : Bool := (List.range m).all fun i => (List.range m).all fun j => i == j || !(wBi b ops i) || !(wBi b ops j) || ancB ops 64 i j || ancB ops 64 j i
structure OpW (b : Nat) (C : Cx) (ops : Array Oper) (m : Nat) (P : St → Prop) (j : Nat) (o : Oper) (T : Slots) (s s' : St) (r : AV) : Prop where
  get : ops[j]? = some o
  dst : o.dst.all (fun i => decide (i < C.nt)) = true
  out : (awanted ops T o = some true ∧ StepS C o T s r s' ∧ (freeB b ops m j = true → ∀ s2, P s2 → StepS C o T s2 r s2)) ∨ (awanted ops T o = some false ∧ r = .tup [] ∧ s' = s)
  keep : wB b o = false → s' = s

theorem Anc.lt {ops : Array Oper} (hb : ∀ i o, ops[i]? = some o → ∀ j ∈ deps o, j < i) {j i : Nat} (h : Anc ops j i) : j < i := by
  induction h with
  | one ho h => exact hb _ _ ho _ h
  | more ho h _ ih => exact Nat.lt_trans ih (hb _ _ ho _ h)

section
variable {b : Nat} {C : Cx} {ops : Array Oper} {Q : Exit → Slots → St → Prop} {T T' : Slots} {s s' : St} {a : Act} {w : World} {μ : Mu}

theorem ord_of {m i j : Nat} (ok : wrOk b ops m = true) (hi : i < m) (hj : j < m) (hne : i ≠ j) (hw : wBi b ops j = true) (hf : freeB b ops m i = false) : Anc ops j i ∨ Anc ops i j := by
  cases h : wBi b ops i
  · simp only [freeB, h, Bool.not_false, Bool.true_and] at hf
    have := List.any_eq_false.1 hf j (List.mem_range.2 hj)
    simp only [hw, Bool.true_and, Bool.not_eq_true', Bool.not_eq_false, Bool.or_eq_true] at this
    exact this.imp (ancB_spec _ _) (ancB_spec _ _)
  · have := List.all_eq_true.1 (List.all_eq_true.1 ok i (List.mem_range.2 hi)) j (List.mem_range.2 hj)
    simp only [h, hw, Bool.not_true, Bool.or_false, Bool.or_eq_true, beq_iff_eq] at this
    rcases this with (h1 | h1) | h1
    · exact absurd h1 hne
    · exact .inl (ancB_spec _ _ h1)
    · exact .inr (ancB_spec _ _ h1)

theorem chain {m : Nat} {Ss : Nat → St} (hk : ∀ j, j < m → wBi b ops j = false → Ss (j + 1) = Ss j) : ∀ (d c : Nat), c + d ≤ m → (∀ w, c ≤ w → w < c + d → wBi b ops w = false) → Ss (c + d) = Ss c := by
  intro d
  induction d with
  | zero => exact fun _ _ _ => rfl
  | succ d ih =>
    intro c hc hn
    rw [← Nat.add_assoc, hk (c + d) (by omega) (hn _ (by omega) (by omega)), ih c (by omega) fun w h1 h2 => hn w h1 (by omega)]

theorem any_sound2 {m : Nat} {P : St → Prop} {res : Nat → AV} {Ts : Nat → Slots} {Ss : Nat → St} (ok : AnyOk ops m) (okw : wrOk b ops m = true) (hT0 : Ts 0 = T)
    (hP : ∀ c, c ≤ m → P (Ss c)) (hI : ∀ j, j < m → (∃ o, OpW b C ops m P j o (Ts j) (Ss j) (Ss (j + 1)) (res j)) ∧ Ts (j + 1) = (Ts j).put (dstOf ops j) (res j))
    (hk : OT C ops Q (List.range' m (ops.size - m)) (Ts m) (Ss m)) : ∀ (fuel : Nat) (listed : Array Bool) (a : Act) (w : World) (μ : Mu) (c : Nat), c ≤ m → Inv C ops m res T (Ss c) listed a w μ →
    (∀ j, j < m → wBi b ops j = true → (listed.getD j false = true ↔ j < c)) →
    (List.range m).countP (fun j => !listed.getD j true) + (ops.size - m) ≤ fuel → wpAny C.E.P .any ops (Post C Q) fuel listed a w := by
  have hTs := Ts_get ok (fun j hj => (hI j hj).2)
  have hle := ok.le
  have hkeep : ∀ j, j < m → wBi b ops j = false → Ss (j + 1) = Ss j := fun j hj hw => by
    obtain ⟨⟨o, hO⟩, _⟩ := hI j hj
    exact hO.keep (by simpa [wBi, hO.get] using hw)
  intro fuel
  have both : ∀ (listed : Array Bool) j, listed.size = ops.size → j < ops.size → listed.getD j true = listed.getD j false := fun listed j h1 h2 => by
    have hlt : j < listed.size := by omega
    simp [Array.getElem?_eq_getElem hlt]
  have all_listed : ∀ (fuel : Nat) (listed : Array Bool) (a : Act) (w : World) (μ : Mu) (c : Nat), c ≤ m → Inv C ops m res T (Ss c) listed a w μ → (∀ j, j < m → wBi b ops j = true → (listed.getD j false = true ↔ j < c)) →
      (ops.size - m) ≤ fuel → (∀ j, j < m → listed.getD j true = true) → wpAny C.E.P .any ops (Post C Q) fuel listed a w := by
    intro fuel listed a w μ c hc hv hwr hf hall
    have hS : Ss m = Ss c := by
      have := chain hkeep (m - c) c (by omega) (fun x h1 h2 => by
        cases hx : wBi b ops x
        · rfl
        · have := (hwr x (by omega) hx).1 (by rw [← both listed x hv.size (by omega)]; exact hall x (by omega))
          omega)
      rw [← this]; congr 1; omega
    have hk' : OT C ops Q (List.range' m (ops.size - m)) (Ts m) (Ss c) := hS ▸ hk
    refine tail_any ok (ops.size - m) m fuel listed a w (by omega) (Nat.le_refl _) hf hv.size hv.closed (fun j hj => ?_) (hk' μ w a ⟨hv.rel, ⟨hv.nt, fun t => ?_⟩, hv.de, hv.fr⟩)
    · by_cases h : j < m
      · rw [hall j h]; simp [h]
      · rw [hv.tail j (by omega) hj]; simp [h]
    · obtain ⟨h1, h2⟩ := hTs t m (Nat.le_refl _)
      by_cases hx : ∃ l, l < m ∧ dstOf ops l = some t
      · obtain ⟨l, hl, hd⟩ := hx
        rw [h1 l hl hd]
        exact hv.new l hl (by rw [← both listed l hv.size (by omega)]; exact hall l hl) t hd
      · have hn : ∀ l, l < m → dstOf ops l ≠ some t := fun l hl hd => hx ⟨l, hl, hd⟩
        rw [h2 hn, hT0]
        exact hv.old t fun l hl hd => absurd hd (hn l hl)
  induction fuel with
  | zero =>
    intro listed a w μ c hc hv hwr hf
    refine all_listed 0 listed a w μ c hc hv hwr (by omega) fun j hj => ?_
    have h0 : (List.range m).countP (fun j => !listed.getD j true) = 0 := by omega
    have := List.countP_eq_zero.1 h0 j (List.mem_range.2 hj)
    simpa using this
  | succ fuel ih =>
    intro listed a w μ c hc hv hwr hf
    by_cases hall : ∀ j, j < m → listed.getD j true = true
    · exact all_listed _ listed a w μ c hc hv hwr (by omega) hall
    have hun : ∃ j, j < m ∧ listed.getD j true = false := by
      refine Classical.byContradiction fun h => hall fun j hj => ?_
      cases hb : listed.getD j true
      · exact absurd ⟨j, hj, hb⟩ h
      · rfl
    obtain ⟨i, ⟨hi, hun⟩, hleast⟩ := least hun
    obtain ⟨⟨o, hO⟩, _⟩ := hI i hi
    have hin : i ∈ Region.ready .any ops listed := by
      refine mem_ready.2 ⟨hun, o, hO.get, fun e he hb => ?_⟩
      have hlt := ok.back i o hO.get e.on (mem_deps.2 ⟨e, he, hb, rfl⟩)
      rw [← both listed e.on hv.size (by omega)]
      cases hx : listed.getD e.on true
      · exact absurd (hleast e.on ⟨by omega, hx⟩) (by omega)
      · rfl
    refine ⟨fun h0 => (by rw [h0] at hin; cases hin), fun j hj => ?_⟩
    clear hO hin
    obtain ⟨h0, o, ho, hdep⟩ := mem_ready.1 hj
    have hjlt := (Array.getElem?_eq_some_iff.1 ho).1
    have hjm : j < m := by
      refine Nat.lt_of_not_le fun hle => ?_
      have := hv.closed.anc (ok.tail j o i ho hle (by omega)) (.inl hj)
      rw [← both listed i hv.size (by omega), hun] at this
      cases this
    have hjun : listed.getD j false = false := by rw [← both listed j hv.size hjlt]; exact h0
    obtain ⟨⟨o', hO⟩, hput⟩ := hI j hjm
    obtain rfl : o' = o := by
      have := hO.get
      rw [ho] at this
      exact (Option.some.inj this).symm
    have hA : At C (only (o'.looksAt ops) (Ts j)) (Ss c) a w μ := by
      refine ⟨hv.rel, ⟨hv.nt, fun t => ?_⟩, hv.de, hv.fr⟩
      rw [only_get]
      split
      · rename_i ht
        obtain ⟨h1, h2⟩ := hTs t j (by omega)
        by_cases hx : ∃ l, l < m ∧ dstOf ops l = some t
        · obtain ⟨l, hl, hd⟩ := hx
          rcases ok.look j o' l t ho hjm hl hd ht with hld | ⟨hjl, hanc⟩
          · have hlj := ok.back j o' ho l hld
            rw [h1 l hlj hd]
            obtain ⟨e, he, hb, hon⟩ := mem_deps.1 hld
            exact hv.new l hl (hon ▸ hdep e he hb) t hd
          · rw [h2 fun l' hl' hd' => absurd (ok.sole l l' t hl (by omega) hd hd') (by omega), hT0]
            refine hv.old t fun l' hl' hd' => ?_
            obtain rfl := ok.sole l l' t hl hl' hd hd'
            cases hx : listed.getD l' false
            · rfl
            · have := hv.closed.anc hanc (.inr hx)
              rw [← both listed j hv.size hjlt, h0] at this
              cases this
        · have hn : ∀ l, l < m → dstOf ops l ≠ some t := fun l hl hd => hx ⟨l, hl, hd⟩
          rw [h2 fun l hl => hn l (by omega), hT0]
          exact hv.old t fun l hl hd => absurd hd (hn l hl)
      · exact .junk _
    have hdst : dstOf ops j = o'.dst := by simp [dstOf, ho]
    have next : ∀ (c' : Nat), c' ≤ m → (∀ l, l < m → wBi b ops l = true → ((listed.setIfInBounds j true).getD l false = true ↔ l < c')) → ∀ v w' μ', VR μ' (Ss c') w' (res j) v → Rel C.E μ' (Ss c') w' → Fr C.n0 C.W μ (Ss c) w μ' (Ss c') w' →
        wpAny C.E.P .any ops (Post C Q) fuel (listed.setIfInBounds j true) (a.put o'.dst v) w' := fun c' hc' hwr' v w' μ' h1 h2 h3 => by
      have hsame : ∀ t, o'.dst ≠ some t → (a.put o'.dst v).tmps.getD t undef = a.tmps.getD t undef := fun t ht => by
        cases hd : o'.dst with
        | none => rfl
        | some d =>
          have hne : d ≠ t := fun e => ht (by rw [hd, e])
          simp [Act.put, Array.getElem?_setIfInBounds_ne hne]
      refine ih _ _ _ μ' c' hc' ⟨by simp [hv.size], h2, ?_, hv.fr.trans h3, ?_, fun t hn => ?_, fun l hl hlist t hd => ?_, fun k hk1 hk2 => ?_, hv.closed.add hj⟩ hwr' ?_
      · cases o'.dst <;> exact hv.de
      · cases hd : o'.dst <;> simp [Act.put, hv.nt]
      · have hjs : (listed.setIfInBounds j true).getD j false = true := by
          have hlt : j < listed.size := by rw [hv.size]; omega
          simp [hlt]
        rw [hsame t fun hd' => by
          have := hn j hjm (hdst.trans hd')
          rw [hjs] at this
          cases this]
        refine (hv.old t fun l hl hd => ?_).mono h3
        have h5 := hn l hl hd
        by_cases e : l = j
        · subst e; rw [hjs] at h5; cases h5
        · rwa [getD_set_ne false (Ne.symm e)] at h5
      · by_cases e : l = j
        · subst e
          rw [hdst] at hd
          have hlt : t < C.nt := by
            have := hO.dst
            rw [hd] at this
            simpa using this
          have : (a.put o'.dst v).tmps.getD t undef = v := by
            have hlt2 : t < a.tmps.size := by rw [hv.nt]; exact hlt
            simp [hd, Act.put, hlt2]
          rw [this]
          exact h1
        · rw [getD_set_ne false (Ne.symm e)] at hlist
          rw [hsame t fun hd' => e (ok.sole j l t hjm hl (hdst.trans hd') hd)]
          exact (hv.new l hl hlist t hd).mono h3
      · rw [getD_set_ne true (by omega)]
        exact hv.tail k hk1 hk2
      · have : (List.range m).countP (fun k => !(listed.setIfInBounds j true).getD k true) < (List.range m).countP (fun k => !listed.getD k true) := by
          refine countP_lt (i := j) _ (fun x _ hx => ?_) (List.mem_range.2 hjm) (by simp [h0]) ?_
          · by_cases e : x = j
            · subst e; simp [h0]
            · rw [getD_set_ne true (Ne.symm e)] at hx; exact hx
          · have hlt : j < listed.size := by rw [hv.size]; omega
            simp [hlt]
        omega
    have unch : wBi b ops j = false → ∀ l, l < m → wBi b ops l = true → ((listed.setIfInBounds j true).getD l false = true ↔ l < c) := fun hwj l hl hwl => by
      have e : l ≠ j := fun e => by subst e; rw [hwj] at hwl; cases hwl
      rw [getD_set_ne false (Ne.symm e)]
      exact hwr l hl hwl
    have around : freeB b ops m j = false → (∀ l, l < m → l ≠ j → wBi b ops l = true → (l < j ↔ l < c)) := fun hfr l hl hne hwl => by
      have hord := ord_of okw hjm hl (Ne.symm hne) hwl hfr
      constructor
      · intro hlj
        rcases hord with h | h
        · exact (hwr l hl hwl).1 (hv.closed.anc h (.inl hj))
        · have := Anc.lt ok.back h; omega
      · intro hlc
        rcases hord with h | h
        · exact Anc.lt ok.back h
        · have h1 := (hwr l hl hwl).2 hlc
          have h2 := hv.closed.anc h (.inr h1)
          rw [hjun] at h2; cases h2
    unfold wpOp
    simp only [ho]
    rcases hO.out with ⟨hw, hS, hfree⟩ | ⟨hw, hr, hsk⟩
    · rw [awanted_sound hA.tr (by rw [only_wanted]; exact hw)]
      simp only [if_true]
      cases hfr : freeB b ops m j
      · have har := around hfr
        have hcj : Ss c = Ss j := by
          by_cases hcj : c ≤ j
          · have := chain hkeep (j - c) c (by omega) (fun x h1 h2 => by
              cases hx : wBi b ops x
              · rfl
              · have := (har x (by omega) (by omega) hx).1 (by omega); omega)
            rw [← this]; congr 1; omega
          · have := chain hkeep (c - j) j (by omega) (fun x h1 h2 => by
              cases hx : wBi b ops x
              · rfl
              · by_cases e : x = j
                · subst e
                  have := (hwr x (by omega) hx).2 (by omega)
                  rw [hjun] at this; cases this
                · have := (har x (by omega) e hx).2 (by omega); omega)
            rw [← this]; congr 1; omega
        rw [← hcj] at hS
        cases hwj : wBi b ops j
        · have hs1 : Ss (j + 1) = Ss c := by rw [hkeep j hjm hwj, hcj]
          rw [hs1] at hS
          exact .inl ((hS.congr fun x hx => (only_ev C.E (Ts j) o' x hx).symm).one μ w a hA _ _ (next c hc (unch hwj)))
        · refine .inl ((hS.congr fun x hx => (only_ev C.E (Ts j) o' x hx).symm).one μ w a hA _ _ (next (j + 1) (by omega) fun l hl hwl => ?_))
          by_cases e : l = j
          · subst e
            have hlt : l < listed.size := by rw [hv.size]; omega
            simp [hlt]
          · rw [getD_set_ne false (Ne.symm e), hwr l hl hwl, ← har l hl e hwl]
            omega
      · have hwj : wBi b ops j = false := by
          cases h : wBi b ops j
          · rfl
          · simp [freeB, h] at hfr
        exact .inl (((hfree hfr (Ss c) (hP c hc)).congr fun x hx => (only_ev C.E (Ts j) o' x hx).symm).one μ w a hA _ _ (next c hc (unch hwj)))
    · rw [awanted_sound hA.tr (by rw [only_wanted]; exact hw)]
      simp only [Bool.false_eq_true, if_false]
      cases hwj : wBi b ops j
      · exact next c hc (unch hwj) undef w μ (by rw [hr]; exact VR.undef) hA.rel hA.rel.refl
      · have hfr : freeB b ops m j = false := by simp [freeB, hwj]
        have har := around hfr
        have hcj : Ss c = Ss j := by
          by_cases hcj : c ≤ j
          · have := chain hkeep (j - c) c (by omega) (fun x h1 h2 => by
              cases hx : wBi b ops x
              · rfl
              · have := (har x (by omega) (by omega) hx).1 (by omega); omega)
            rw [← this]; congr 1; omega
          · have := (hwr j hjm hwj).2 (by omega)
            rw [hjun] at this; cases this
        have hs1 : Ss (j + 1) = Ss c := by rw [hsk, hcj]
        refine next (j + 1) (by omega) (fun l hl hwl => ?_) undef w μ (by rw [hr]; exact VR.undef) (by rw [hs1]; exact hA.rel) (by rw [hs1]; exact hA.rel.refl)
        by_cases e : l = j
        · subst e
          have hlt : l < listed.size := by rw [hv.size]; omega
          simp [hlt]
        · rw [getD_set_ne false (Ne.symm e), hwr l hl hwl, ← har l hl e hwl]
          omega

/-- What the operations come to, in turn; writes among them. -/
inductive OW (b : Nat) (C : Cx) (ops : Array Oper) (m : Nat) (P : St → Prop) : Nat → Nat → Slots → St → Slots → St → Prop
  | nil {i : Nat} {T : Slots} {s : St} (hp : P s) : OW b C ops m P i 0 T s T s
  | step {i n : Nat} {T T' : Slots} {s s1 s' : St} {o : Oper} {r : AV} (hp : P s) (h : OpW b C ops m P i o T s s1 r) (k : OW b C ops m P (i + 1) n (T.put o.dst r) s1 T' s') : OW b C ops m P i (n + 1) T s T' s'
theorem OW.res {m : Nat} {P : St → Prop} : ∀ {k i : Nat} {T T' : Slots} {s s' : St}, OW b C ops m P i k T s T' s' → ∃ (res : Nat → AV) (Ts : Nat → Slots) (Ss : Nat → St), Ts i = T ∧ Ts (i + k) = T' ∧ Ss i = s ∧ Ss (i + k) = s' ∧
    (∀ c, i ≤ c → c ≤ i + k → P (Ss c)) ∧ ∀ j, i ≤ j → j < i + k → (∃ o, OpW b C ops m P j o (Ts j) (Ss j) (Ss (j + 1)) (res j)) ∧ Ts (j + 1) = (Ts j).put (dstOf ops j) (res j) := by
  intro k
  induction k with
  | zero => intro i T T' s s' h; cases h; rename_i hp; exact ⟨fun _ => .junk, fun _ => T, fun _ => s, rfl, rfl, rfl, rfl, fun _ _ _ => hp, fun j h1 h2 => by omega⟩
  | succ k ih =>
    intro i T T' s s' h
    cases h with
    | step hp hO hk =>
      rename_i s1 o r
      obtain ⟨res, Ts, Ss, h1, h2, h3, h4, h6, h5⟩ := ih hk
      refine ⟨fun j => if j = i then r else res j, fun j => if j = i then T else Ts j, fun j => if j = i then s else Ss j, by simp, ?_, by simp, ?_, fun c hc1 hc2 => ?_, fun j hj1 hj2 => ?_⟩
      · show (if i + (k + 1) = i then T else Ts (i + (k + 1))) = T'
        rw [if_neg (by omega), ← h2]; congr 1; omega
      · show (if i + (k + 1) = i then s else Ss (i + (k + 1))) = s'
        rw [if_neg (by omega), ← h4]; congr 1; omega
      · show P (if c = i then s else Ss c)
        by_cases e : c = i
        · rw [if_pos e]; exact hp
        · rw [if_neg e]; exact h6 c (by omega) (by omega)
      · by_cases e : j = i
        · subst e
          simp only [if_true]
          rw [if_neg (by omega), if_neg (by omega), h1, h3]
          exact ⟨⟨o, hO⟩, by simp [dstOf, hO.get]⟩
        · simp only [if_neg e, if_neg (show ¬ j + 1 = i by omega)]
          exact h5 j (by omega) (by omega)
/-- A region in any order, with writes. -/
theorem CT.anyW (m : Nat) {P : St → Prop} {id : Nat} (hm : C.E.P.follows .mixedOrders = true) (hok : anyOk ops m = true) (hw : wrOk b ops m = true) (hq : OW b C ops m P 0 m T s T' s') (hk : OT C ops Q (List.range' m (ops.size - m)) T' s') :
    CT C (.region id ops true) Q T s := fun μ w a hA => by
  have ok := anyOk_spec hok
  obtain ⟨res, Ts, Ss, h1, h2, h3, h4, h6, h5⟩ := hq.res
  simp only [Nat.zero_add] at h2 h4
  subst h2
  subst h4
  subst h3
  refine wp_region_any hm (any_sound2 ok hw h1 (fun c hc => h6 c (Nat.zero_le _) (by omega)) (fun j hj => h5 j (Nat.zero_le _) (by omega)) hk ops.size _ a _ μ 0 (Nat.zero_le _)
    ⟨by simp, hA.rel.drew _, hA.de, hA.fr.trans (Fr.drew hA.rel _), hA.tr.1, fun t _ => (hA.tr.2 t).mono (Fr.drew (n0 := 0) (W := fun _ => False) hA.rel _), fun l hl hlist => ?_, fun i h1 h2 => by simp [h2], fun i o ho hl => by
      have hlt := (Array.getElem?_eq_some_iff.1 ho).1
      simp [hlt] at hl⟩ (fun j hj _ => by
        have hle := ok.le
        have : j < ops.size := by omega
        simp [this]) ?_)
  · have hle := ok.le
    have : l < ops.size := by omega
    simp [this] at hlist
  · have hle := ok.le
    have : (List.range m).countP (fun j => !(Array.replicate ops.size false).getD j true) ≤ m := by
      have := List.countP_le_length (p := fun j => !(Array.replicate ops.size false).getD j true) (l := List.range m)
      simpa using this
    omega
end
end Go.Am
