/- Part of the proof: abstract values over the given model of Go (AmI, AmJ, AmK, AmL, AmM, AmN, AmO, AmP, AmQ, AmQB, AmQC, AmQD, AmQE). Conditions: none of its own; see the statement in the seat's Rows text. -/
import Derived.Test.YtkhfjjgcafkihaaGreatAmOne
import Derived.Laws.Tables
import Derived.Laws.BytesArg
import Derived.LaidEql
import Derived.Lib.UnsafeStr
import Derived.Lib.Builder
set_option linter.unusedSimpArgs false
set_option linter.unusedVariables false
set_option linter.unusedSectionVars false
namespace Go.Am

/-! ### structs compared cell by cell -/
def aveq : AV → AV → Option Bool
  | .bool a, .bool b => some (a == b)
  | .int k a, .int k' b => if k = k' then some (a == b) else none
  | .str a, .str b => some (a == b)
  | _, _ => none
def avseq : List AV → List AV → Option Bool
  | [], [] => some true
  | x :: xs, y :: ys => match aveq x y, avseq xs ys with
    | some b, some c => some (b && c)
    | _, _ => none
  | _, _ => none

inductive CK where
  | b | i | s
  deriving DecidableEq
def AV.ck : AV → Option CK
  | .bool _ => some .b
  | .int _ _ => some .i
  | .str _ => some .s
  | _ => none
def kindsFs (kt : TypeId → Option (List CK)) : List Field → Nat → Option (List CK)
  | [], _ => some []
  | f :: fs, off => if f.name != "_" && f.offset == off then
      match kt f.type with
      | some ks => match kindsFs kt fs (off + ks.length) with
        | some r => some (ks ++ r)
        | none => none
      | none => none
    else none
def kindsD (kt : TypeId → Option (List CK)) (x : TI) : Option (List CK) :=
  match x.desc with
  | .bool => some [CK.b]
  | .string => some [CK.s]
  | .int _ => some [CK.i]
  | .struct fs => if x.held then none else kindsFs kt fs.toList 0
  | _ => none
/-- The cells of a type of bools, numbers, texts, or structs of these. -/
def kindsT (E : Env) : Nat → TypeId → Option (List CK)
  | 0, _ => none
  | d + 1, t => match E.ti t with
    | some x => match kindsD (kindsT E d) x with
      | some ks => if ks.length = x.size then some ks else none
      | none => none
    | none => none
theorem kindsT_some {E : Env} {d : Nat} {t : TypeId} {x : TI} {ks : List CK} (hx : E.ti t = some x) (h : kindsT E (d + 1) t = some ks) : kindsD (kindsT E d) x = some ks ∧ ks.length = x.size := by
  simp only [kindsT, hx] at h
  cases hk : kindsD (kindsT E d) x with
  | none => simp [hk] at h
  | some k =>
    simp only [hk] at h
    split at h
    · obtain rfl := Option.some.inj h
      exact ⟨rfl, by assumption⟩
    · cases h

section
variable {E : Env} {μ : Mu} {s : St} {w : World}

theorem avseq_length : ∀ {xs ys : List AV} {r : Bool}, avseq xs ys = some r → xs.length = ys.length
  | [], [], _, _ => rfl
  | x :: xs, y :: ys, r, h => by
    simp only [avseq] at h
    split at h
    · rename_i b c hb hc
      simp [avseq_length hc]
    · cases h
  | [], _ :: _, _, h => by simp [avseq] at h
  | _ :: _, [], _, h => by simp [avseq] at h

theorem avseq_split : ∀ (n : Nat) {xs ys : List AV} {r : Bool}, avseq xs ys = some r →
    ∃ a b, avseq (xs.take n) (ys.take n) = some a ∧ avseq (xs.drop n) (ys.drop n) = some b ∧ r = (a && b)
  | 0, xs, ys, r, h => ⟨true, r, by simp [avseq], by simpa using h, by simp⟩
  | n + 1, [], [], r, h => ⟨true, r, by simp [avseq], by simpa using h, by simp⟩
  | n + 1, x :: xs, y :: ys, r, h => by
    simp only [avseq] at h
    split at h
    · rename_i b c hb hc
      obtain ⟨a1, b1, h1, h2, h3⟩ := avseq_split n hc
      refine ⟨b && a1, b1, by simp [avseq, hb, h1], by simpa using h2, ?_⟩
      simp only [Option.some.injEq] at h
      rw [← h, h3, Bool.and_assoc]
    · cases h
  | n + 1, [], _ :: _, _, h => by simp [avseq] at h
  | n + 1, _ :: _, [], _, h => by simp [avseq] at h

theorem run_part' {t : TypeId} {x : TI} (ht : E.ti t = some x) (cs : Array Value) (off : Nat) (w : World) (hoff : off + x.size ≤ cs.size) (h1 : x.agg = false → x.size = 1) :
    ∃ v, (part t cs off).run E.P w = .ok v w ∧ (x.agg = true → v = .agg (cs.extract off (off + x.size))) ∧ (x.agg = false → ∃ h : off < cs.size, v = cs[off]) := by
  simp only [part, Sem.run_bind, run_isAgg' ht, Result.andThen_ok]
  cases hx : x.agg with
  | true =>
    simp only [if_true, Sem.run_bind, run_sizeOf' ht, Result.andThen_ok, Sem.run_pure]
    exact ⟨_, rfl, fun _ => rfl, fun h => by cases h⟩
  | false =>
    have := h1 hx
    have hlt : off < cs.size := by omega
    simp only [Bool.false_eq_true, if_false, Array.getElem?_eq_getElem hlt, Sem.run_pure]
    exact ⟨_, rfl, fun h => (by simp at h), fun _ => ⟨hlt, rfl⟩⟩

theorem ck_take {ks1 ks2 : List CK} {cs : List AV} (h : cs.map AV.ck = (ks1 ++ ks2).map some) : (cs.take ks1.length).map AV.ck = ks1.map some ∧ (cs.drop ks1.length).map AV.ck = ks2.map some := by
  constructor
  · rw [List.map_take, h, List.map_append, List.take_left' (by simp)]
  · rw [List.map_drop, h, List.map_append, List.drop_left' (by simp)]

theorem VRs.extract {cs : List AV} {vs : Array Value} (h : VRs μ s w cs vs) (off n : Nat) (hn : off + n ≤ vs.size) : VRs μ s w ((cs.drop off).take n) (vs.extract off (off + n)) := by
  refine ⟨by simp [h.1]; omega, fun i x v hx hv => ?_⟩
  obtain ⟨hi, hx⟩ := take_drop_get _ _ _ _ _ hx
  refine h.2 (off + i) x v hx ?_
  rw [Array.getElem?_extract] at hv
  split at hv
  · exact hv
  · cases hv

/-- What equality of two values of a plain type comes to. -/
theorem equalIn_plain : ∀ (d : Nat) (t : TypeId) (x : TI) (ks : List CK) (d' : Nat) (vx vy : Value) (cs ds : List AV) (r : Bool), kindsT E d t = some ks → E.ti t = some x → d ≤ d' →
    (x.agg = true → ∃ a, vx = .agg a) → (x.agg = true → ∃ a, vy = .agg a) → (x.agg = false → vx.cells = #[vx]) → (x.agg = false → vy.cells = #[vy]) →
    VRs μ s w cs vx.cells → VRs μ s w ds vy.cells → cs.map AV.ck = ks.map some → ds.map AV.ck = ks.map some → avseq cs ds = some r → (Op.equalIn d' t vx vy).run E.P w = .ok r w
  | 0, t, x, ks, d', vx, vy, cs, ds, r, hp, _, _, _, _, _, _, _, _, _, _, _ => by simp [kindsT] at hp
  | d + 1, t, x, ks, 0, vx, vy, cs, ds, r, _, _, hd, _, _, _, _, _, _, _, _, _ => by omega
  | d + 1, t, x, ks, d' + 1, vx, vy, cs, ds, r, hp, ht, hd, hax, hay, hnx, hny, hvx, hvy, hk, hk2, h => by
    obtain ⟨_, hu, h3, hheld, _⟩ := ti_parts ht
    obtain ⟨hp, hksl⟩ := kindsT_some ht hp
    unfold kindsD at hp
    have scalar : ∀ k : CK, x.agg = false → ks = [k] → ∃ a b, aveq a b = some r ∧ VR μ s w a vx ∧ VR μ s w b vy ∧ a.ck = some k ∧ b.ck = some k := by
      intro k ha hs
      subst hs
      match cs, ds, hk, hk2, h with
      | [a], [b], hk, hk2, h =>
        simp only [List.map_cons, List.map_nil, List.cons.injEq, and_true] at hk hk2
        refine ⟨a, b, ?_, ?_, ?_, hk, hk2⟩
        · simp only [avseq] at h
          split at h
          · rename_i b1 c1 hb1 hc1
            simp only [Option.some.injEq] at hc1 h
            subst hc1
            simp only [Bool.and_true] at h
            rw [hb1, h]
          · cases h
        · exact hvx.2 0 a vx rfl (by rw [hnx ha]; rfl)
        · exact hvy.2 0 b vy rfl (by rw [hny ha]; rfl)
      | [], _, hk, _, _ => simp at hk
      | _ :: _ :: _, _, hk, _, _ => simp at hk
      | [_], [], _, hk2, _ => simp at hk2
      | [_], _ :: _ :: _, _, hk2, _ => simp at hk2
    cases hdesc : x.desc with
    | bool =>
      simp only [hdesc, Option.some.injEq] at hp
      rw [hdesc] at h3 hu
      obtain ⟨a, b, hab, va, vb, ka, kb⟩ := scalar .b (by simpa [aggDesc] using h3) hp.symm
      cases va <;> simp [AV.ck] at ka
      cases vb <;> simp [AV.ck] at kb
      simp only [aveq, Option.some.injEq] at hab
      rw [← hab]
      exact run_equalIn_bool w d' t _ _ hu
    | string =>
      simp only [hdesc, Option.some.injEq] at hp
      rw [hdesc] at h3 hu
      obtain ⟨a, b, hab, va, vb, ka, kb⟩ := scalar .s (by simpa [aggDesc] using h3) hp.symm
      cases va <;> simp [AV.ck] at ka
      cases vb <;> simp [AV.ck] at kb
      simp only [aveq, Option.some.injEq] at hab
      rw [← hab, run_equalIn_string w d' t _ _ hu, ByteArray.toList_eq, ByteArray.toList_eq]
    | int k =>
      simp only [hdesc, Option.some.injEq] at hp
      rw [hdesc] at h3 hu
      obtain ⟨a, b, hab, va, vb, ka, kb⟩ := scalar .i (by simpa [aggDesc] using h3) hp.symm
      cases va <;> simp [AV.ck] at ka
      cases vb <;> simp [AV.ck] at kb
      rename_i k1 n1 k2 n2
      simp only [aveq] at hab
      split at hab
      · rename_i hkk
        subst hkk
        simp only [Option.some.injEq] at hab
        rw [← hab]
        exact run_equalIn_int w d' t k1 k _ _ hu
      · cases hab
    | struct fs =>
      simp only [hdesc] at hp
      rw [hdesc] at h3 hu
      have hagg : x.agg = true := by simpa [aggDesc] using h3
      obtain ⟨xs, rfl⟩ := hax hagg
      obtain ⟨ys, rfl⟩ := hay hagg
      have hh : E.P.stoodInHeld t = false := by
        rw [hagg, Bool.true_and] at hheld
        rw [← hheld]
        cases hx : x.held
        · rfl
        · simp [hx] at hp
      have hxh : x.held = false := by rw [hheld, hagg, hh]; rfl
      simp only [hxh, Bool.false_eq_true, if_false] at hp
      have hf : E.P.fieldsOf t = fs := by simp [Program.fieldsOf, hu]
      rw [run_equalIn_struct w d' t xs ys (by rw [hf]; exact hu) hh, hf]
      have hvx' : VRs μ s w cs xs := hvx
      have hvy' : VRs μ s w ds ys := hvy
      clear hvx hvy hax hay hnx hny
      -- field by field
      have key : ∀ (l : List Field) (off : Nat) (ks : List CK) (r : Bool), off ≤ cs.length → off ≤ ds.length → kindsFs (kindsT E d) l off = some ks → (cs.drop off).map AV.ck = ks.map some → (ds.drop off).map AV.ck = ks.map some →
          avseq (cs.drop off) (ds.drop off) = some r → (Op.eqFields d' xs ys l).run E.P w = .ok r w := by
        intro l
        induction l with
        | nil =>
          intro off ks r ho1 ho2 hks hk1 hk2 hr
          simp only [kindsFs, Option.some.injEq] at hks
          subst hks
          have e1 : cs.drop off = [] := by simpa using hk1
          have e2 : ds.drop off = [] := by simpa using hk2
          rw [e1, e2] at hr
          simp only [avseq, Option.some.injEq] at hr
          subst hr
          simp [Op.eqFields]
        | cons f fs ih =>
          intro off ks r ho1 ho2 hks hk1 hk2 hr
          simp only [kindsFs] at hks
          split at hks
          · rename_i hcond
            simp only [Bool.and_eq_true, bne_iff_ne, ne_eq, beq_iff_eq] at hcond
            split at hks
            · rename_i ks1 hks1
              split at hks
              · rename_i ks2 hks2
                simp only [Option.some.injEq] at hks
                subst hks
                obtain ⟨c1, c2⟩ := ck_take hk1
                obtain ⟨d1, d2⟩ := ck_take hk2
                obtain ⟨a, b, ha, hb, rfl⟩ := avseq_split ks1.length hr
                have hlen1 : (cs.drop off).length = (ks1 ++ ks2).length := by simpa using congrArg List.length hk1
                have hlen2 : (ds.drop off).length = (ks1 ++ ks2).length := by simpa using congrArg List.length hk2
                simp only [List.length_drop, List.length_append] at hlen1 hlen2
                obtain ⟨y, hy⟩ : ∃ y, E.ti f.type = some y := by
                  cases d with
                  | zero => simp [kindsT] at hks1
                  | succ d =>
                    cases hty : E.ti f.type with
                    | some y => exact ⟨y, rfl⟩
                    | none => simp [kindsT, hty] at hks1
                have hys : y.size = ks1.length := by
                  cases d with
                  | zero => simp [kindsT] at hks1
                  | succ d => exact (kindsT_some hy hks1).2.symm
                have hxl := hvx'.1
                have hyl := hvy'.1
                have hy1 : y.agg = false → y.size = 1 := by
                  intro ha
                  obtain ⟨_, _, h3y, _⟩ := ti_parts hy
                  cases d with
                  | zero => simp [kindsT] at hks1
                  | succ d =>
                    obtain ⟨hks3, hks4⟩ := kindsT_some hy hks1
                    unfold kindsD at hks3
                    rw [h3y] at ha
                    rw [← hks4]
                    cases hdy : y.desc <;> simp [hdy, aggDesc] at hks3 ha <;> (rw [← hks3]; rfl)
                obtain ⟨p1, hp1, hp1a, hp1b⟩ := run_part' hy xs f.offset w (by rw [hcond.2]; omega) hy1
                obtain ⟨p2, hp2, hp2a, hp2b⟩ := run_part' hy ys f.offset w (by rw [hcond.2]; omega) hy1
                have hv1 : VRs μ s w ((cs.drop off).take ks1.length) p1.cells ∧ (y.agg = false → p1.cells = #[p1]) := by
                  cases hya : y.agg with
                  | true =>
                    rw [hp1a hya, hcond.2, hys]
                    exact ⟨hvx'.extract off ks1.length (by omega), fun h => by cases h⟩
                  | false =>
                    obtain ⟨hlt, rfl⟩ := hp1b hya
                    have hone : ks1.length = 1 := by rw [← hys]; exact hy1 hya
                    have hlt' : off < cs.length := by omega
                    have e1 : (cs.drop off).take 1 = [cs[off]] := by
                      rw [List.drop_eq_getElem_cons hlt']; rfl
                    have hlt2 : off < xs.size := by omega
                    have hvv := hvx'.2 off cs[off] xs[off] (List.getElem?_eq_getElem hlt') (Array.getElem?_eq_getElem hlt2)
                    have hck : (cs[off]).ck ≠ none := by
                      intro hn
                      have hm : ((cs.drop off).take ks1.length).map AV.ck = ks1.map some := c1
                      rw [hone, e1] at hm
                      have : ks1 = [ks1.headD .b] := by
                        match ks1, hone with
                        | [k], _ => rfl
                      rw [this] at hm
                      simp [hn] at hm
                    have hoc : (xs[off]).oneCell' = true := by
                      refine hvv.oneCell ?_
                      cases hcs : cs[off] <;> simp [AV.ck, hcs] at hck <;> rfl
                    have hce := cells_one hoc
                    have e2 : xs[f.offset] = xs[off] := by simp [hcond.2]
                    rw [e2, hce, hone, e1]
                    refine ⟨⟨rfl, fun i x v hx hv => ?_⟩, fun _ => rfl⟩
                    cases i with
                    | zero => simp at hx hv; subst hx; subst hv; exact hvv
                    | succ i => simp at hx
                have hv2 : VRs μ s w ((ds.drop off).take ks1.length) p2.cells ∧ (y.agg = false → p2.cells = #[p2]) := by
                  cases hya : y.agg with
                  | true =>
                    rw [hp2a hya, hcond.2, hys]
                    exact ⟨hvy'.extract off ks1.length (by omega), fun h => by cases h⟩
                  | false =>
                    obtain ⟨hlt, rfl⟩ := hp2b hya
                    have hone : ks1.length = 1 := by rw [← hys]; exact hy1 hya
                    have hlt' : off < ds.length := by omega
                    have e1 : (ds.drop off).take 1 = [ds[off]] := by
                      rw [List.drop_eq_getElem_cons hlt']; rfl
                    have hlt2 : off < ys.size := by omega
                    have hvv := hvy'.2 off ds[off] ys[off] (List.getElem?_eq_getElem hlt') (Array.getElem?_eq_getElem hlt2)
                    have hck : (ds[off]).ck ≠ none := by
                      intro hn
                      have hm : ((ds.drop off).take ks1.length).map AV.ck = ks1.map some := d1
                      rw [hone, e1] at hm
                      have : ks1 = [ks1.headD .b] := by
                        match ks1, hone with
                        | [k], _ => rfl
                      rw [this] at hm
                      simp [hn] at hm
                    have hoc : (ys[off]).oneCell' = true := by
                      refine hvv.oneCell ?_
                      cases hcs : ds[off] <;> simp [AV.ck, hcs] at hck <;> rfl
                    have hce := cells_one hoc
                    have e2 : ys[f.offset] = ys[off] := by simp [hcond.2]
                    rw [e2, hce, hone, e1]
                    refine ⟨⟨rfl, fun i x v hx hv => ?_⟩, fun _ => rfl⟩
                    cases i with
                    | zero => simp at hx hv; subst hx; subst hv; exact hvv
                    | succ i => simp at hx
                have heq := equalIn_plain d f.type y ks1 d' p1 p2 _ _ a hks1 hy (by omega) (fun hya => ⟨_, hp1a hya⟩) (fun hya => ⟨_, hp2a hya⟩) hv1.2 hv2.2 hv1.1 hv2.1 c1 d1 ha
                simp only [Op.eqFields, hcond.1, not_false_eq_true, if_true, ne_eq, Sem.run_bind, hp1, hp2, Result.andThen_ok, heq]
                cases a with
                | false => simp
                | true =>
                  simp only [Bool.not_true, Bool.false_eq_true, if_false, Bool.true_and]
                  have e3 : ∀ l : List AV, (l.drop off).drop ks1.length = l.drop (off + ks1.length) := fun l => by rw [List.drop_drop]
                  exact ih (off + ks1.length) ks2 b (by omega) (by omega) hks2 (by rw [← e3]; exact c2) (by rw [← e3]; exact d2) (by rw [← e3, ← e3]; exact hb)
              · cases hks
            · cases hks
          · cases hks
      exact key fs.toList 0 ks r (Nat.zero_le _) (Nat.zero_le _) hp (by simpa using hk) (by simpa using hk2) (by simpa using h)
    | _ => simp [hdesc] at hp
end
end Go.Am
namespace Go.Am

def St.live (s : St) (id : Nat) : Bool := (s.get id).isSome
theorem St.live_some {s : St} {id : Nat} (h : s.live id = true) : ∃ o, s.get id = some o := Option.isSome_iff_exists.1 h

/-! ### addresses -/
def fieldOf (E : Env) (t : TypeId) (f : Nat) : Option (Nat × TI) :=
  match E.ti t with
  | some x => match x.desc with
    | .struct fs => match fs[f]? with
      | some fl => match E.ti fl.type with
        | some y => some (fl.offset, y)
        | none => none
      | none => none
    | _ => none
  | none => none
def afieldAddr (s : St) (p : AV) (off : Nat) : Option AV :=
  match p with
  | .ptr id o => if s.live id then some (.ptr id (o + off)) else none
  | .ep id i j => match s.get id with
    | some (.row _ _ _) => some (.ep id i (j + off))
    | _ => none
  | .rp cs => some (.rp (cs.drop off))
  | _ => none
def elemOfT (E : Env) (t : TypeId) : Option TI :=
  match E.ti t with
  | some x => match x.desc with
    | .slice e => E.ti e
    | _ => none
  | none => none
def elemId (E : Env) (t : TypeId) : TypeId :=
  match E.ti t with
  | some x => match x.desc with
    | .slice e => e
    | _ => 0
  | none => 0
theorem elemId_eq {E : Env} {t e : TypeId} {x : TI} (hx : E.ti t = some x) (hd : x.desc = .slice e) : elemId E t = e := by
  simp only [elemId, hx, hd]
def arrOfT (E : Env) (t : TypeId) : Option (Nat × TI) :=
  match E.ti t with
  | some x => match x.desc with
    | .array n e => match E.ti e with
      | some y => some (n, y)
      | none => none
    | _ => none
  | none => none
/-- x[i], an address: x a slice. -/
def aindex (s : St) (x : AV) (i : Int) (sz : Nat) : Option AV :=
  match x with
  | .ls id off len => match s.get id with
    | some (.row sz' _ _) => if sz' = sz ∧ 0 ≤ i ∧ i < len then some (.ep id (off + i.toNat) 0) else none
    | _ => none
  | .sl xs => if 0 ≤ i ∧ i < xs.length then match xs[i.toNat]? with
    | some e => if e.length = sz then some (.rp e) else none
    | none => none
    else none
  | _ => none
/-- a[i], an address: a the address of an array of n. -/
def aindexArr (s : St) (x : AV) (i : Int) (n sz : Nat) : Option AV :=
  if 0 ≤ i ∧ i < n then match x with
  | .ptr id o => if s.live id then some (.ptr id (o + i.toNat * sz)) else none
  | .rp cs => some (.rp (cs.drop (i.toNat * sz)))
  | _ => none
  else none

section
variable {E : Env} {n0 : Nat} {W : Nat → Prop} {μ μ' : Mu} {s s' : St} {w w' : World}

theorem VR.rpDrop {cs : List AV} {a : Addr} (h : VR μ s w (.rp cs) (.pointer (some a))) (off : Nat) : VR μ s w (.rp (cs.drop off)) (.pointer (some (a.add off))) := by
  cases h with
  | rp _ _ vs hb hm hc hv =>
    refine .rp _ _ (fun j => vs (off + j)) (by rw [Addr.add_block]; exact hb) (fun id p hp => by rw [Addr.add_block]; exact hm id p hp) (fun j x hx => ?_) (fun j x hx => ?_)
    · rw [List.getElem?_drop] at hx
      rw [Addr.add_add]
      exact hc _ x hx
    · rw [List.getElem?_drop] at hx
      exact hv _ x hx

theorem afieldAddr_sound {p r : AV} {off : Nat} {v : Value} (h : afieldAddr s p off = some r) (hv : VR μ s w p v) : ∃ a, v = .pointer (some a) ∧ VR μ s w r (.pointer (some (a.add off))) := by
  cases hv with
  | ptr id o v _ hn hp =>
    simp only [afieldAddr] at h
    split at h
    · rename_i hl
      obtain ⟨ob, ho⟩ := St.live_some hl
      obtain rfl := Option.some.inj h
      obtain ⟨p, hq, rfl⟩ := hp ob ho
      refine ⟨_, rfl, .ptr _ _ _ rfl hn fun o1 ho1 => ⟨p, hq, ?_⟩⟩
      rw [Addr.add_add]
    · cases h
  | ep id i j v _ hn hp =>
    simp only [afieldAddr] at h
    split at h
    · rename_i sz wr es hs
      obtain rfl := Option.some.inj h
      obtain ⟨p, hq, rfl⟩ := hp _ _ _ hs
      refine ⟨_, rfl, .ep _ _ _ _ rfl hn fun sz1 wr1 es1 hs1 => ⟨p, hq, ?_⟩⟩
      obtain ⟨rfl, _, _⟩ : sz = sz1 ∧ wr = wr1 ∧ es = es1 := by simpa [hs] using hs1
      rw [Addr.add_add, Nat.add_assoc]
    · cases h
  | rp cs a vs hb hm hc hv =>
    simp only [afieldAddr, Option.some.injEq] at h
    subst h
    exact ⟨a, rfl, (VR.rp cs a vs hb hm hc hv).rpDrop off⟩
  | _ => simp [afieldAddr] at h

theorem fieldOf_parts {t : TypeId} {f : Nat} {off : Nat} {y : TI} (h : fieldOf E t f = some (off, y)) : ∃ x fs fl, E.ti t = some x ∧ x.desc = .struct fs ∧ fs[f]? = some fl ∧ fl.offset = off ∧ E.ti fl.type = some y := by
  unfold fieldOf at h
  split at h
  · rename_i x hx
    split at h
    · rename_i fs hfs
      split at h
      · rename_i fl hfl
        split at h
        · rename_i y' hy
          simp only [Option.some.injEq, Prod.mk.injEq] at h
          obtain ⟨h1, rfl⟩ := h
          exact ⟨x, fs, fl, hx, hfs, hfl, h1, hy⟩
        · cases h
      · cases h
    · cases h
  · cases h

theorem fieldAddr_sound (hR : Rel E μ s w) {t : TypeId} {f off : Nat} {y : TI} (hf : fieldOf E t f = some (off, y)) (hy : y.size ≠ 0) {p r : AV} {v : Value} (h : afieldAddr s p off = some r) (hv : VR μ s w p v) :
    Yld E n0 W μ s w ((Instr.fieldAt t v f).run E.P w) r s := by
  obtain ⟨x, fs, fl, hx, hfs, hfl, rfl, hty⟩ := fieldOf_parts hf
  obtain ⟨a, rfl, hr⟩ := afieldAddr_sound h hv
  have : (Instr.fieldAt t (.pointer (some a)) f).run E.P w = .ok (.pointer (some (a.add fl.offset))) w := by
    simp only [Instr.fieldAt, Sem.run_bind, run_underlying' hx, Result.andThen_ok, hfs, hfl, Instr.sureAddr, Sem.run_pure, fieldPlace, run_sizeOf' hty, hy, if_false]
  rw [this]
  exact Yld.pure hR hr

theorem elemOfT_parts {t : TypeId} {y : TI} (h : elemOfT E t = some y) : ∃ x e, E.ti t = some x ∧ x.desc = .slice e ∧ E.ti e = some y := by
  unfold elemOfT at h
  split at h
  · rename_i x hx
    split at h
    · rename_i e he
      exact ⟨x, e, hx, he, h⟩
    · cases h
  · cases h
theorem arrOfT_parts {t : TypeId} {n : Nat} {y : TI} (h : arrOfT E t = some (n, y)) : ∃ x e, E.ti t = some x ∧ x.desc = .array n e ∧ E.ti e = some y := by
  unfold arrOfT at h
  split at h
  · rename_i x hx
    split at h
    · rename_i m e he
      split at h
      · rename_i y' hy
        simp only [Option.some.injEq, Prod.mk.injEq] at h
        obtain ⟨rfl, rfl⟩ := h
        exact ⟨x, e, hx, he, hy⟩
      · cases h
    · cases h
  · cases h

theorem VR.rowAt {xs : List (List AV)} {a : Addr} {n cap : Nat} (h : VR μ s w (.sl xs) (.slice (some a) n cap)) {i : Nat} {e : List AV} {sz : Nat} (he : xs[i]? = some e) (hs : e.length = sz) :
    VR μ s w (.rp e) (.pointer (some (a.add (i * sz)))) := by
  cases h with
  | slnil => simp at he
  | sl _ _ _ sz0 vs hb hm hsp hcap hsz hc hv =>
    have : sz0 = sz := by rw [← hsz e (List.mem_of_getElem? he), hs]
    subst this
    refine .rp _ _ (fun j => vs i j) (by rw [Addr.add_block]; exact hb) (fun id p hp => by rw [Addr.add_block]; exact hm id p hp) (fun j x hx => ?_) (fun j x hx => ?_)
    · rw [Addr.add_add]
      exact hc i j x (by simp [get2, he, hx])
    · exact hv i j x (by simp [get2, he, hx])

theorem index_sound (hR : Rel E μ s w) {t : TypeId} {y : TI} (ht : elemOfT E t = some y) {x r : AV} {v : Value} {k : IntKind} {i : Int} (h : aindex s x i y.size = some r) (hv : VR μ s w x v) :
    Yld E n0 W μ s w ((Instr.indexAt t v (.int k i)).run E.P w) r s := by
  obtain ⟨tx, e, hx, he, hy⟩ := elemOfT_parts ht
  cases hv with
  | ls id off len v _ hn hp =>
    simp only [aindex] at h
    split at h
    · rename_i sz wr es hs
      split at h
      · rename_i hc
        obtain ⟨rfl, h0, h1⟩ := hc
        obtain rfl := Option.some.inj h
        rcases hp _ _ _ hs with ⟨rfl, _⟩ | ⟨p, cap, hq, rfl, _, _⟩
        · simp at h1; omega
        · have : (Instr.indexAt t (.slice (some (p.1.add (off * y.size))) len cap) (.int k i)).run E.P w = .ok (.pointer (some ((p.1.add (off * y.size)).add (i.toNat * y.size)))) w := by
            simp only [Instr.indexAt, asIntOf, Sem.run_bind, Sem.run_pure, Result.andThen_ok, run_underlying' hx, he, h0, h1, and_self, if_true, run_sizeOf' hy]
          rw [this]
          refine Yld.pure hR (.ep _ _ _ _ rfl hn fun sz1 wr1 es1 hs1 => ⟨p, hq, ?_⟩)
          obtain ⟨rfl, _, _⟩ : y.size = sz1 ∧ wr = wr1 ∧ es = es1 := by simpa [hs] using hs1
          rw [Addr.add_add, Nat.add_zero, Nat.add_mul]
      · cases h
    · cases h
  | sl xs a cap sz0 vs hb hm hsp hcap hsz hc hvs =>
    simp only [aindex] at h
    split at h
    · rename_i hc1
      split at h
      · rename_i el hel
        split at h
        · rename_i hsl
          obtain rfl := Option.some.inj h
          have : (Instr.indexAt t (.slice (some a) xs.length cap) (.int k i)).run E.P w = .ok (.pointer (some (a.add (i.toNat * y.size)))) w := by
            simp only [Instr.indexAt, asIntOf, Sem.run_bind, Sem.run_pure, Result.andThen_ok, run_underlying' hx, he, hc1.1, hc1.2, and_self, if_true, run_sizeOf' hy]
          rw [this]
          exact Yld.pure hR ((VR.sl xs a cap sz0 vs hb hm hsp hcap hsz hc hvs).rowAt hel hsl)
        · cases h
      · cases h
    · cases h
  | slnil => simp [aindex] at h
  | _ => simp [aindex] at h

theorem indexArr_sound (hR : Rel E μ s w) {t : TypeId} {n : Nat} {y : TI} (ht : arrOfT E t = some (n, y)) {x r : AV} {v : Value} {k : IntKind} {i : Int} (h : aindexArr s x i n y.size = some r) (hv : VR μ s w x v) :
    Yld E n0 W μ s w ((Instr.indexAt t v (.int k i)).run E.P w) r s := by
  obtain ⟨tx, e, hx, he, hy⟩ := arrOfT_parts ht
  unfold aindexArr at h
  split at h
  · rename_i hc
    have run : ∀ a, (Instr.indexAt t (.pointer (some a)) (.int k i)).run E.P w = .ok (.pointer (some (a.add (i.toNat * y.size)))) w := fun a => by
      simp only [Instr.indexAt, asIntOf, Sem.run_bind, Sem.run_pure, Result.andThen_ok, run_underlying' hx, he, Instr.sureAddr, hc.1, hc.2, and_self, if_true, run_sizeOf' hy]
    cases hv with
    | ptr id o v _ hn hp =>
      simp only at h
      split at h
      · rename_i hl
        obtain ⟨ob, ho⟩ := St.live_some hl
        obtain rfl := Option.some.inj h
        obtain ⟨p, hq, rfl⟩ := hp ob ho
        rw [run]
        refine Yld.pure hR (.ptr _ _ _ rfl hn fun o1 ho1 => ⟨p, hq, ?_⟩)
        rw [Addr.add_add]
      · cases h
    | rp cs a vs hb hm hc2 hv =>
      simp only [Option.some.injEq] at h
      subst h
      rw [run]
      exact Yld.pure hR ((VR.rp cs a vs hb hm hc2 hv).rpDrop _)
    | _ => simp at h
  · cases h

/-! ### slices of slices and of texts -/
/-- x[lo:hi] -/
def aslice (s : St) (x : AV) (lo hi : Option Int) : Option AV :=
  match x with
  | .str b =>
    let h := hi.getD b.length
    let l := lo.getD 0
    if 0 ≤ l ∧ l ≤ h ∧ h ≤ b.length then some (.str ((b.drop l.toNat).take (h.toNat - l.toNat))) else none
  | .ls id off len => match s.get id with
    | some (.row _ _ _) =>
      let h := hi.getD len
      let l := lo.getD 0
      if 0 ≤ l ∧ l ≤ h ∧ h ≤ len then some (.ls id (off + l.toNat) (h.toNat - l.toNat)) else none
    | _ => none
  | .sl xs =>
    let h := hi.getD xs.length
    let l := lo.getD 0
    if 0 ≤ l ∧ l ≤ h ∧ h ≤ xs.length then some (.sl ((xs.drop l.toNat).take (h.toNat - l.toNat))) else none
  | .nsl =>
    if lo.getD 0 = 0 ∧ hi.getD 0 = 0 then some .nsl else none
  | _ => none

def VInt (v : Option Value) (i : Option Int) : Prop :=
  match v, i with
  | none, none => True
  | some (.int _ n), some m => n = m
  | _, _ => False

theorem run_bound (v : Value) (k : IntKind) (i : Int) (y : Nat) (c : BoundsCode) (hv : v = .int k i) (h0 : 0 ≤ i) (h1 : i ≤ y) : (Instr.sliceBound v y c).run E.P w = .ok i.toNat w := by
  subst hv
  simp [Instr.sliceBound, asIntOf, h0, h1]

theorem run_bounds (isS : Bool) (len cap : Nat) (vl vh : Option Value) (lo hi : Option Int) (hl : VInt vl lo) (hh : VInt vh hi) (h0 : 0 ≤ lo.getD 0) (h1 : lo.getD 0 ≤ hi.getD len) (h2 : hi.getD len ≤ len) (hc : len ≤ cap) :
    (Instr.sliceBounds isS len cap vl vh none).run E.P w = .ok ((lo.getD 0).toNat, (hi.getD len).toNat, cap) w := by
  have hlo : (match vl with | some v => Instr.sliceBound v (hi.getD len).toNat (if (none : Option Value).isSome then .slice3C else .sliceB) | none => pure 0).run E.P w = .ok (lo.getD 0).toNat w := by
    cases vl with
    | none => cases lo with
      | none => simp
      | some l => simp [VInt] at hl
    | some v => cases lo with
      | none => cases v <;> simp [VInt] at hl
      | some l =>
        cases v <;> simp [VInt] at hl
        subst hl
        simp only [Option.getD_some] at h0 h1 ⊢
        exact run_bound _ _ _ _ _ rfl h0 (by rw [Int.toNat_of_nonneg (by omega)]; exact h1)
  cases vh with
  | none => cases hi with
    | none =>
      simp only [Option.getD_none, Int.toNat_natCast] at hlo ⊢
      cases vl <;> simp only [Instr.sliceBounds, Sem.run_bind, Sem.run_pure, Result.andThen_ok] at hlo ⊢
      · simpa using hlo
      · rw [hlo]; rfl
    | some h => simp [VInt] at hh
  | some v => cases hi with
    | none => cases v <;> simp [VInt] at hh
    | some h =>
      cases v <;> simp [VInt] at hh
      subst hh
      rename_i k n
      simp only [Option.getD_some] at h1 h2 hlo ⊢
      have hb : ∀ c, (Instr.sliceBound (.int k n) cap c).run E.P w = .ok n.toNat w := fun c => run_bound _ _ _ _ _ rfl (by omega) (by omega)
      cases vl <;> simp only [Instr.sliceBounds, Sem.run_bind, Sem.run_pure, Result.andThen_ok, hb] at hlo ⊢
      · simpa using hlo
      · rw [hlo]; rfl
end
end Go.Am
namespace Go.Am
section
variable {E : Env} {n0 : Nat} {W : Nat → Prop} {μ μ' : Mu} {s s' : St} {w w' : World}

theorem slice_sound (hR : Rel E μ s w) {t : TypeId} {x : TI} (ht : E.ti t = some x) {y r : AV} {v : Value} {vl vh : Option Value} {lo hi : Option Int} (hlo : VInt vl lo) (hhi : VInt vh hi)
    (hk : (∃ b, y = .str b) → x.desc = .string) (hk2 : (¬ ∃ b, y = .str b) → ∃ e, x.desc = .slice e ∧ (E.ti e).isSome)
    (hsz : ∀ e z, x.desc = .slice e → E.ti e = some z → (∀ xs, y = .sl xs → ∀ q ∈ xs, q.length = z.size) ∧ ∀ id off len sz wr es, y = .ls id off len → s.get id = some (.row sz wr es) → sz = z.size)
    (h : aslice s y lo hi = some r) (hv : VR μ s w y v) : Yld E n0 W μ s w ((Instr.sliceAt t v vl vh none).run E.P w) r s := by
  cases hv with
  | str b =>
    have hd := hk ⟨_, rfl⟩
    simp only [aslice] at h
    split at h
    · rename_i hc
      obtain rfl := Option.some.inj h
      have hlen : b.data.toList.length = b.size := by simp
      rw [hlen] at hc
      have hb := run_bounds (E := E) (w := w) false b.size b.size vl vh lo hi hlo hhi hc.1 hc.2.1 hc.2.2 (Nat.le_refl _)
      have : (Instr.sliceAt t (.string b) vl vh none).run E.P w = .ok (.string (b.extract (lo.getD 0).toNat (hi.getD b.size).toNat)) w := by
        simp only [Instr.sliceAt, Sem.run_bind, run_underlying' ht, Result.andThen_ok, hd, Instr.slice, Option.isSome_none, Bool.false_eq_true, if_false, hb, Sem.run_pure]
      rw [this]
      refine Yld.pure hR ?_
      have e : (b.data.toList.drop (lo.getD 0).toNat).take ((hi.getD b.data.toList.length).toNat - (lo.getD 0).toNat) = (b.extract (lo.getD 0).toNat (hi.getD b.size).toNat).data.toList := by
        rw [ByteArray.data_extract, hlen]
        simp
      rw [e]
      exact .str _
    · cases h
  | ls id off len v _ hn hp =>
    obtain ⟨e, hd, hes⟩ := hk2 (by rintro ⟨b, hb⟩; cases hb)
    obtain ⟨z, hz⟩ := Option.isSome_iff_exists.1 hes
    simp only [aslice] at h
    split at h
    · rename_i sz wr es hs
      split at h
      · rename_i hc
        obtain rfl := Option.some.inj h
        have hszz := (hsz e z hd hz).2 id off len sz wr es rfl hs
        rcases hp _ _ _ hs with ⟨rfl, a0, rfl⟩ | ⟨p, cap, hq, rfl, hlc, hcr⟩
        · have hb := run_bounds (E := E) (w := w) true 0 0 vl vh lo hi hlo hhi hc.1 hc.2.1 hc.2.2 (Nat.le_refl _)
          have h1 : (hi.getD ((0 : Nat) : Int)).toNat = 0 := by omega
          have h2 : (lo.getD 0).toNat = 0 := by omega
          have : (Instr.sliceAt t (.slice a0 0 0) vl vh none).run E.P w = .ok (.slice a0 0 0) w := by
            simp only [Instr.sliceAt, Sem.run_bind, run_underlying' ht, Result.andThen_ok, hd, Instr.slice, hb, run_sizeOf' hz, Sem.run_pure, h1, h2]
            rfl
          rw [this]
          refine Yld.pure hR (.ls _ _ _ _ rfl hn fun _ _ _ _ => .inl ⟨by omega, _, rfl⟩)
        · have hb := run_bounds (E := E) (w := w) true len cap vl vh lo hi hlo hhi hc.1 hc.2.1 hc.2.2 hlc
          have : (Instr.sliceAt t (.slice (some (p.1.add (off * sz))) len cap) vl vh none).run E.P w =
              .ok (.slice (if cap = (lo.getD 0).toNat then some (p.1.add (off * sz)) else some ((p.1.add (off * sz)).add ((lo.getD 0).toNat * z.size))) ((hi.getD len).toNat - (lo.getD 0).toNat) (cap - (lo.getD 0).toNat)) w := by
            simp only [Instr.sliceAt, Sem.run_bind, run_underlying' ht, Result.andThen_ok, hd, Instr.slice, hb, run_sizeOf' hz, Sem.run_pure, Option.map_some]
          rw [this]
          refine Yld.pure hR (.ls _ _ _ _ (by split <;> rfl) hn fun sz1 wr1 es1 hs1 => ?_)
          obtain ⟨rfl, _, _⟩ : sz = sz1 ∧ wr = wr1 ∧ es = es1 := by simpa [hs] using hs1
          by_cases hcl : cap = (lo.getD 0).toNat
          · have h3 : (hi.getD (len : Int)).toNat - (lo.getD 0).toNat = 0 := by omega
            rw [if_pos hcl, h3, ← hcl, Nat.sub_self]
            exact .inl ⟨rfl, _, rfl⟩
          · rw [if_neg hcl]
            refine .inr ⟨p, cap - (lo.getD 0).toNat, hq, ?_, by omega, ?_⟩
            · rw [Addr.add_add, ← hszz, Nat.add_mul]
            · have : off + (lo.getD 0).toNat + (cap - (lo.getD 0).toNat) = off + cap := by omega
              rw [this]; exact hcr
      · cases h
    · cases h
  | nsl =>
    obtain ⟨e, hd, hes⟩ := hk2 (by rintro ⟨b, hb⟩; cases hb)
    obtain ⟨z, hz⟩ := Option.isSome_iff_exists.1 hes
    simp only [aslice] at h
    split at h
    · rename_i hc
      obtain rfl := Option.some.inj h
      have hb := run_bounds (E := E) (w := w) true 0 0 vl vh lo hi hlo hhi (by omega) (by cases hi <;> simp at hc ⊢ <;> omega) (by cases hi <;> simp at hc ⊢ <;> omega) (Nat.le_refl _)
      have h1 : (hi.getD ((0 : Nat) : Int)).toNat = 0 := by cases hi <;> simp at hc ⊢ <;> omega
      have h2 : (lo.getD 0).toNat = 0 := by omega
      have : (Instr.sliceAt t (.slice none 0 0) vl vh none).run E.P w = .ok (.slice none 0 0) w := by
        simp only [Instr.sliceAt, Sem.run_bind, run_underlying' ht, Result.andThen_ok, hd, Instr.slice, hb, run_sizeOf' hz, Sem.run_pure, h1, h2]
        rfl
      rw [this]
      exact Yld.pure hR .nsl
    · cases h
  | sl xs a cap sz0 vs hb hm hsp hcap hsz0 hc hvs =>
    obtain ⟨e, hd, hes⟩ := hk2 (by rintro ⟨b, hb⟩; cases hb)
    obtain ⟨z, hz⟩ := Option.isSome_iff_exists.1 hes
    simp only [aslice] at h
    split at h
    · rename_i hcc
      obtain rfl := Option.some.inj h
      have hbd := run_bounds (E := E) (w := w) true xs.length cap vl vh lo hi hlo hhi hcc.1 hcc.2.1 hcc.2.2 hcap
      have : (Instr.sliceAt t (.slice (some a) xs.length cap) vl vh none).run E.P w =
          .ok (.slice (if cap = (lo.getD 0).toNat then some a else some (a.add ((lo.getD 0).toNat * z.size))) ((hi.getD xs.length).toNat - (lo.getD 0).toNat) (cap - (lo.getD 0).toNat)) w := by
        simp only [Instr.sliceAt, Sem.run_bind, run_underlying' ht, Result.andThen_ok, hd, Instr.slice, hbd, run_sizeOf' hz, Sem.run_pure, Option.map_some]
      rw [this]
      have hlen : ((xs.drop (lo.getD 0).toNat).take ((hi.getD (xs.length : Int)).toNat - (lo.getD 0).toNat)).length = (hi.getD (xs.length : Int)).toNat - (lo.getD 0).toNat := by
        simp; omega
      have hmem : ∀ q ∈ (xs.drop (lo.getD 0).toNat).take ((hi.getD (xs.length : Int)).toNat - (lo.getD 0).toNat), q ∈ xs := fun q hq => List.mem_of_mem_drop (List.mem_of_mem_take hq)
      have hx2 : ∀ i j x, get2 ((xs.drop (lo.getD 0).toNat).take ((hi.getD (xs.length : Int)).toNat - (lo.getD 0).toNat)) i j = some x → get2 xs ((lo.getD 0).toNat + i) j = some x := fun i j x hx => (get2_take_drop _ _ _ _ _ _ hx).2
      refine Yld.pure hR ?_
      by_cases hcl : cap = (lo.getD 0).toNat
      · rw [if_pos hcl]
        have h3 : (hi.getD (xs.length : Int)).toNat - (lo.getD 0).toNat = 0 := by omega
        rw [h3, List.take_zero]
        exact .sl [] a _ sz0 vs hb hm (fun h => absurd rfl h) (Nat.zero_le _) (fun _ h => by cases h) (fun i j x hx => by simp [get2] at hx) (fun i j x hx => by simp [get2] at hx)
      · rw [if_neg hcl]
        have key := VR.sl (μ := μ) (s := s) (w := w) ((xs.drop (lo.getD 0).toNat).take ((hi.getD (xs.length : Int)).toNat - (lo.getD 0).toNat)) (a.add ((lo.getD 0).toNat * z.size)) (cap - (lo.getD 0).toNat) z.size (fun i j => vs ((lo.getD 0).toNat + i) j)
          (by rw [Addr.add_block]; exact hb) (fun id p hp => by rw [Addr.add_block]; exact hm id p hp) (fun hne => Addr.add_spot (hsp fun e => hne (by rw [e]; simp)) _) (by rw [hlen]; omega) (fun q hq => (hsz e z hd hz).1 xs rfl q (hmem q hq)) (fun i j x hx => by
            have h4 := hx2 i j x hx
            have h5 := hc _ _ _ h4
            have h6 : sz0 = z.size := by
              unfold get2 at h4
              cases hg : xs[(lo.getD 0).toNat + i]? with
              | none => simp [hg] at h4
              | some q =>
                have hq := List.mem_of_getElem? hg
                rw [← hsz0 q hq]
                exact (hsz e z hd hz).1 xs rfl q hq
            rw [Addr.add_add, ← h6, ← Nat.add_assoc, ← Nat.add_mul]
            exact h5) (fun i j x hx => hvs _ _ _ (hx2 i j x hx))
        rw [hlen] at key
        exact key
    · cases h
  | slnil a =>
    obtain ⟨e, hd, hes⟩ := hk2 (by rintro ⟨b, hb⟩; cases hb)
    obtain ⟨z, hz⟩ := Option.isSome_iff_exists.1 hes
    simp only [aslice] at h
    split at h
    · rename_i hc
      obtain rfl := Option.some.inj h
      simp only [List.length_nil] at hc
      have hb := run_bounds (E := E) (w := w) true 0 0 vl vh lo hi hlo hhi hc.1 hc.2.1 hc.2.2 (Nat.le_refl _)
      have h1 : (hi.getD ((0 : Nat) : Int)).toNat = 0 := by omega
      have h2 : (lo.getD 0).toNat = 0 := by omega
      have : ∃ a', (Instr.sliceAt t (.slice a 0 0) vl vh none).run E.P w = .ok (.slice a' 0 0) w := by
        cases a with
        | none =>
          exact ⟨none, by
            simp only [Instr.sliceAt, Sem.run_bind, run_underlying' ht, Result.andThen_ok, hd, Instr.slice, hb, run_sizeOf' hz, Sem.run_pure, h1, h2]
            rfl⟩
        | some a =>
          refine ⟨?_, ?_⟩
          rotate_left
          · simp only [Instr.sliceAt, Sem.run_bind, run_underlying' ht, Result.andThen_ok, hd, Instr.slice, hb, run_sizeOf' hz, Sem.run_pure, h1, h2]
            rfl
      obtain ⟨a', this⟩ := this
      rw [this]
      refine Yld.pure hR ?_
      simp only [List.drop_nil, List.take_nil]
      exact .slnil _
    · cases h
  | _ => simp [aslice] at h
end
end Go.Am
namespace Go.Am

/-- len -/
def alen (s : St) (x : AV) : Option Nat :=
  match x with
  | .str b => some b.length
  | .nsl => some 0
  | .sl xs => some xs.length
  | .ls id _ len => match s.get id with
    | some (.row _ _ _) => some len
    | _ => none
  | .nmap => some 0
  | .map id => match s.get id with
    | some (.map es) => some es.length
    | _ => none
  | _ => none

/-- Parts filled into cells. -/
def afill (place : Nat → Option (Nat × Nat)) (cells : List AV) : List (Nat × AV) → Option (List AV)
  | [] => some cells
  | (i, x) :: rest =>
    match place i with
    | none => none
    | some (off, size) => if x.fit ∧ x.cells.length = size ∧ off + size ≤ cells.length then afill place (splice cells off x.cells) rest else none

section
variable {E : Env} {n0 : Nat} {W : Nat → Prop} {μ μ' : Mu} {s s' : St} {w w' : World}

theorem len_sound (hR : Rel E μ s w) {t ty : TypeId} {x : TI} (ht : E.ti t = some x) {y : AV} {v : Value} {n : Nat}
    (hstr : (∃ b, y = .str b) → x.desc = .string) (hmap : (y = .nmap ∨ ∃ id, y = .map id) → ∃ a b, x.desc = .map a b) (hsl : (¬ ∃ b, y = .str b) → (¬ (y = .nmap ∨ ∃ id, y = .map id)) → ∃ e, x.desc = .slice e)
    (h : alen s y = some n) (hv : VR μ s w y v) : Yld E n0 W μ s w ((Builtin.len_ #[t] ty #[v]).run E.P w) (.int .i64 n) s := by
  have key : (Builtin.len_ #[t] ty #[v]).run E.P w = .ok (.int .i64 n) w := by
    cases hv with
    | str b =>
      simp only [alen, Option.some.injEq] at h
      subst h
      have := hstr ⟨_, rfl⟩
      simp [Builtin.len_, run_underlying' ht, this, goInt]
    | nsl =>
      simp only [alen, Option.some.injEq] at h
      subst h
      obtain ⟨e, he⟩ := hsl (by rintro ⟨b, hb⟩; cases hb) (by rintro (hb | ⟨b, hb⟩) <;> cases hb)
      simp [Builtin.len_, run_underlying' ht, he, goInt]
    | slnil =>
      simp only [alen, Option.some.injEq] at h
      subst h
      obtain ⟨e, he⟩ := hsl (by rintro ⟨b, hb⟩; cases hb) (by rintro (hb | ⟨b, hb⟩) <;> cases hb)
      simp [Builtin.len_, run_underlying' ht, he, goInt]
    | sl xs a cap sz vs hb hm hsp hcap hsz hc hvs =>
      simp only [alen, Option.some.injEq] at h
      subst h
      obtain ⟨e, he⟩ := hsl (by rintro ⟨b, hb⟩; cases hb) (by rintro (hb | ⟨b, hb⟩) <;> cases hb)
      simp [Builtin.len_, run_underlying' ht, he, goInt]
    | ls id off len v _ hn hp =>
      obtain ⟨e, he⟩ := hsl (by rintro ⟨b, hb⟩; cases hb) (by rintro (hb | ⟨b, hb⟩) <;> cases hb)
      simp only [alen] at h
      split at h
      · rename_i sz wr es hs
        obtain rfl := Option.some.inj h
        rcases hp _ _ _ hs with ⟨rfl, a0, rfl⟩ | ⟨p, cap, hq, rfl, _, _⟩
        · simp [Builtin.len_, run_underlying' ht, he, goInt]
        · simp [Builtin.len_, run_underlying' ht, he, goInt]
      · cases h
    | nmap =>
      simp only [alen, Option.some.injEq] at h
      subst h
      obtain ⟨a, b, he⟩ := hmap (.inl rfl)
      simp [Builtin.len_, run_underlying' ht, he, goInt]
    | map id v _ hn hp =>
      obtain ⟨a, b, he⟩ := hmap (.inr ⟨_, rfl⟩)
      simp only [alen] at h
      split at h
      · rename_i es hs
        obtain rfl := Option.some.inj h
        obtain ⟨p, hq, rfl⟩ := hp _ hs
        obtain ⟨_, o, ho, hr⟩ := hR.obj id p hq
        obtain rfl : o = .map es := Option.some.inj (ho.symm.trans hs)
        obtain ⟨_, _, ents, clk, hh, hl, _⟩ := hr
        simp [Builtin.len_, run_underlying' ht, he, goInt, getObj, Sem.run, hh, hl]
      · cases h
    | _ => simp [alen] at h
  rw [key]
  exact Yld.pure hR (.int _ _)

/-! ### literals -/
theorem foldl_set (off : Nat) : ∀ (l : List Value) (k : Nat) (c : Array Value), off + k + l.length ≤ c.size →
    (l.zipIdx k).foldl (fun cs (x : Value × Nat) => cs.setIfInBounds (off + x.2) x.1) c = asplice c (off + k) l
  | [], k, c, _ => by simp [asplice_nil]
  | x :: l, k, c, h => by
    simp only [List.length_cons] at h
    rw [List.zipIdx_cons, List.foldl_cons, foldl_set off l (k + 1) _ (by simp; omega)]
    rw [← Nat.add_assoc, asplice_cons _ _ _ _ (by simp; omega)]

theorem fill_sound (place : Nat → Option (Nat × Nat)) : ∀ (ps : List (Nat × AV)) (qs : List (Nat × Value)) (cs : List AV) (vs : Array Value) (out : List AV), afill place cs ps = some out →
    ps.length = qs.length → (∀ (i : Nat) (a : Nat × AV) (b : Nat × Value), ps[i]? = some a → qs[i]? = some b → a.1 = b.1 ∧ VR μ s w a.2 b.2) → VRs μ s w cs vs → ∃ us, Instr.fill place vs qs = some us ∧ VRs μ s w out us ∧ out.length = cs.length
  | [], [], cs, vs, out, h, _, _, hv => by
    simp only [afill, Option.some.injEq] at h
    subst h
    exact ⟨vs, rfl, hv, rfl⟩
  | (i, x) :: ps, (j, v) :: qs, cs, vs, out, h, hl, hh, hv => by
    obtain ⟨rfl, hx⟩ := hh 0 _ _ rfl rfl
    simp only [afill] at h
    split at h
    · cases h
    · rename_i off size hp
      split at h
      · rename_i hc
        obtain ⟨hf, hs, ho⟩ := hc
        obtain ⟨hcs, hone⟩ := hx.cells hf
        have hvl : v.cells.size = size := by rw [← hcs.1]; exact hs
        have hsz : off + v.cells.toList.length ≤ vs.size := by rw [← hv.1]; simp; omega
        have hspl : VRs μ s w (splice cs off x.cells) (asplice vs off v.cells.toList) := by
          refine ⟨?_, fun k a b ha hb => ?_⟩
          · rw [splice_length _ _ _ (by omega), asplice_size _ _ _ hsz]; exact hv.1
          · rw [splice_get _ _ _ (by omega)] at ha
            rw [asplice_get _ _ _ hsz] at hb
            have e1 : v.cells.toList.length = x.cells.length := by simp [hcs.1]
            rw [e1] at hb
            split at ha
            · rw [if_pos (by assumption)] at hb
              exact hv.2 k a b ha hb
            · rename_i h1
              rw [if_neg h1] at hb
              split at ha
              · rw [if_pos (by assumption)] at hb
                exact hcs.2 _ a b ha (by simpa using hb)
              · rename_i h2
                rw [if_neg h2] at hb
                exact hv.2 k a b ha hb
        obtain ⟨us, h1, h2, h3⟩ := fill_sound place ps qs _ _ out h (by simpa using hl) (fun k a b ha hb => hh (k + 1) a b ha hb) hspl
        refine ⟨us, ?_, h2, by rw [h3, splice_length _ _ _ (by omega)]⟩
        simp only [Instr.fill, hp]
        have hcond : ¬ ((v.cells.size ≠ size || decide (off + v.cells.size > vs.size)) = true) := by
          simp only [Array.length_toList] at hsz
          simp [hvl]
          omega
        rw [if_neg hcond]
        have hfold : v.cells.zipIdx.foldl (fun cs (x : Value × Nat) => cs.setIfInBounds (off + x.2) x.1) vs = asplice vs off v.cells.toList := by
          rw [← Array.foldl_toList, Array.toList_zipIdx]
          exact foldl_set off _ 0 vs (by simpa using hsz)
        exact hfold ▸ h1
      · cases h
  | [], _ :: _, _, _, _, _, hl, _, _ => by simp at hl
  | _ :: _, [], _, _, _, _, hl, _, _ => by simp at hl
end
end Go.Am
namespace Go.Am

def placesOf (E : Env) (fs : List Field) : Option (List (Nat × Nat)) := fs.mapM fun f => (E.ti f.type).map fun y => (f.offset, y.size)
def abuild (E : Env) (t : TypeId) (parts : List (Nat × AV)) : Option AV :=
  match E.ti t with
  | some x => match x.desc with
    | .struct fs => match placesOf E fs.toList with
      | some places => match afill (fun i => places[i]?) (x.zero.map ofConst) parts with
        | some cs => some (.agg cs)
        | none => none
      | none => none
    | .array _ e => match E.ti e with
      | some y => match afill (fun i => some (i * y.size, y.size)) (x.zero.map ofConst) parts with
        | some cs => some (.agg cs)
        | none => none
      | none => none
    | _ => none
  | none => none
def chunks {α : Type} (sz n : Nat) (l : List α) : List (List α) := (List.range n).map fun i => (l.drop (i * sz)).take sz
def abuildSlice (E : Env) (s : St) (t : TypeId) (len : Nat) (parts : List (Nat × AV)) : Option (AV × St) :=
  match elemOfT E t with
  | some y => if len * y.size ≤ 2 ^ 24 ∧ y.zero.length = y.size then
      match afill (fun i => some (i * y.size, y.size)) (List.replicate len (y.zero.map ofConst)).flatten parts with
      | some cs => some (.ls s.nx 0 len, s.push (.row y.size (true, elemId E t) (chunks y.size len cs)))
      | none => none
    else none
  | none => none
/-- make([]T, len, cap) -/
def amake (E : Env) (s : St) (t : TypeId) (l c : Int) : Option (AV × St) :=
  match elemOfT E t with
  | some y => if 0 ≤ l ∧ l ≤ c ∧ c * y.bytes ≤ 2 ^ 47 ∧ y.zero.length = y.size ∧ y.bytes ≠ 0 then
      some (.ls s.nx 0 l.toNat, s.push (.row y.size (true, elemId E t) (List.replicate l.toNat (y.zero.map ofConst))))
    else none
  | none => none

section
variable {E : Env} {n0 : Nat} {W : Nat → Prop} {μ μ' : Mu} {s s' : St} {w w' : World}

theorem placesOf_info : ∀ {fs : List Field} {places : List (Nat × Nat)}, placesOf E fs = some places → fs.mapM (fun f => (E.P.info? f.type).map fun i => (f.offset, i.size)) = some places
  | [], places, h => by simpa [placesOf] using h
  | f :: fs, places, h => by
    simp only [placesOf, List.mapM_cons, Option.bind_eq_bind, Option.pure_def] at h ⊢
    cases hi : E.ti f.type with
    | none => simp [hi] at h
    | some y =>
      cases hr : placesOf E fs with
      | none =>
        have hr' : fs.mapM (fun f => (E.ti f.type).map fun y => (f.offset, y.size)) = none := hr
        simp [hi, hr'] at h
      | some rest =>
        have hr' : fs.mapM (fun f => (E.ti f.type).map fun y => (f.offset, y.size)) = some rest := hr
        simp [hi, hr'] at h
        subst h
        obtain ⟨⟨i, h1, h2, _⟩, _⟩ := ti_parts hi
        rw [placesOf_info hr]
        simp [h1, h2]

theorem VRs.ofConsts (l : List Value) (vs : Array Value) (h : vs.toList = l) : VRs μ s w (l.map ofConst) vs := by
  refine ⟨by simp [← h], fun i y u hy hu => ?_⟩
  rw [← h] at hy
  simp only [List.getElem?_map, Array.getElem?_toList, hu, Option.map_some, Option.some.injEq] at hy
  subst hy
  exact .const u

theorem built_sound {t : TypeId} {ps : List (Nat × AV)} {qs : List (Nat × Value)} {r : AV} (h : abuild E t ps = some r) (hl : ps.length = qs.length)
    (hh : ∀ (i : Nat) (a : Nat × AV) (b : Nat × Value), ps[i]? = some a → qs[i]? = some b → a.1 = b.1 ∧ VR μ s w a.2 b.2) : ∃ us, E.P.built t qs = some us ∧ VR μ s w r (.agg us) := by
  unfold abuild at h
  split at h
  · rename_i x hx
    obtain ⟨⟨i, hi, _, _, z, hz, hzl⟩, hu, _⟩ := ti_parts hx
    have hzv : VRs μ s w (x.zero.map ofConst) z.cells := VRs.ofConsts _ _ hzl
    split at h
    · rename_i fs hfs
      split at h
      · rename_i places hp
        split at h
        · rename_i cs hcs
          obtain rfl := Option.some.inj h
          obtain ⟨us, h1, h2, _⟩ := fill_sound _ ps qs _ _ _ hcs hl hh hzv
          refine ⟨us, ?_, .agg _ _ h2.1 h2.2⟩
          rw [hfs] at hu
          have hpl : (fun (i : Nat) => places.toArray[i]?) = fun (i : Nat) => places[i]? := by funext i; simp
          simp only [Program.built, hi, hu, hz, placesOf_info hp, hpl]
          exact h1
        · cases h
      · cases h
    · rename_i n e he
      split at h
      · rename_i y hy
        split at h
        · rename_i cs hcs
          obtain rfl := Option.some.inj h
          obtain ⟨us, h1, h2, _⟩ := fill_sound _ ps qs _ _ _ hcs hl hh hzv
          refine ⟨us, ?_, .agg _ _ h2.1 h2.2⟩
          rw [he] at hu
          obtain ⟨⟨ie, hie, hies, _⟩, _⟩ := ti_parts hy
          simp only [Program.built, hi, hu, hz, hie, hies]
          exact h1
        · cases h
      · cases h
    · cases h
  · cases h

theorem build_sound (hR : Rel E μ s w) {t : TypeId} {ps : List (Nat × AV)} {qs : Array (Nat × Value)} {r : AV} (h : abuild E t ps = some r) (hl : ps.length = qs.size)
    (hh : ∀ (i : Nat) (a : Nat × AV) (b : Nat × Value), ps[i]? = some a → qs[i]? = some b → a.1 = b.1 ∧ VR μ s w a.2 b.2) : Yld E n0 W μ s w ((Instr.build t qs).run E.P w) r s := by
  obtain ⟨us, h1, h2⟩ := built_sound (qs := qs.toList) h (by simpa using hl) (by simpa using hh)
  rw [run_build w t qs us h1]
  exact Yld.pure hR h2

theorem get2_chunks {α : Type} {sz n : Nat} {l : List α} {i j : Nat} {x : α} (h : get2 (chunks sz n l) i j = some x) : i < n ∧ j < sz ∧ l[i * sz + j]? = some x := by
  unfold get2 chunks at h
  by_cases hi : i < n
  · simp only [List.getElem?_map, List.getElem?_range hi, Option.map_some, Option.bind_some] at h
    obtain ⟨hj, hx⟩ := take_drop_get _ _ _ _ _ h
    exact ⟨hi, hj, hx⟩
  · simp [List.getElem?_map, List.getElem?_eq_none, hi] at h
theorem chunks_length {α : Type} (sz n : Nat) (l : List α) : (chunks sz n l).length = n := by simp [chunks]
theorem chunks_mem {α : Type} {sz n : Nat} {l : List α} (hl : l.length = n * sz) : ∀ e ∈ chunks sz n l, e.length = sz := by
  intro e he
  obtain ⟨i, hi, rfl⟩ := List.mem_map.1 he
  have hi := List.mem_range.1 hi
  have : (i + 1) * sz ≤ n * sz := Nat.mul_le_mul_right _ hi
  rw [Nat.succ_mul] at this
  simp
  omega

/-- The cells of zero elements. -/
theorem zeros_get (z : Array Value) (n : Nat) (hz : z.size ≠ 0) : ((Array.range (n * z.size)).map fun i => z[i % z.size]!).toList = (List.replicate n z.toList).flatten := by
  apply List.ext_getElem?
  intro k
  by_cases hk : k < n * z.size
  · have h0 : 0 < z.size := by omega
    have hm : k % z.size < z.size := Nat.mod_lt _ h0
    have hd : k / z.size < n := Nat.div_lt_of_lt_mul (by rw [Nat.mul_comm]; exact hk)
    have e1 : (((Array.range (n * z.size)).map fun i => z[i % z.size]!).toList)[k]? = some z[k % z.size] := by
      simp [hk, hm]
    rw [e1]
    clear e1
    induction n generalizing k with
    | zero => simp at hk
    | succ n ih =>
      rw [List.replicate_succ, List.flatten_cons, List.getElem?_append]
      by_cases hks : k < z.size
      · have : k % z.size = k := Nat.mod_eq_of_lt hks
        simp [hks, this]
      · have hks' : z.size ≤ k := by omega
        rw [Nat.succ_mul] at hk
        simp only [Array.length_toList, hks, if_false]
        by_cases hlt : k - z.size < n * z.size
        · have e2 : (k - z.size) % z.size = k % z.size := (Nat.mod_eq_sub_mod hks').symm
          have := ih (k - z.size) hlt (Nat.mod_lt _ h0) (Nat.div_lt_of_lt_mul (by rw [Nat.mul_comm]; exact hlt))
          rw [← this]
          simp [e2]
        · omega
  · have e1 : (((Array.range (n * z.size)).map fun i => z[i % z.size]!).toList)[k]? = none := by simp; omega
    rw [e1]
    symm
    rw [List.getElem?_eq_none]
    simp
    omega

theorem VRs.flat (z : List Value) (n : Nat) (vs : Array Value) (h : vs.toList = (List.replicate n z).flatten) : VRs μ s w (List.replicate n (z.map ofConst)).flatten vs := by
  have : (List.replicate n (z.map ofConst)).flatten = ((List.replicate n z).flatten).map ofConst := by
    rw [List.map_flatten, List.map_replicate]
  rw [this]
  exact VRs.ofConsts _ _ h

theorem buildSlice_sound (hR : Rel E μ s w) {t : TypeId} {len : Nat} {ps : List (Nat × AV)} {qs : Array (Nat × Value)} {r : AV} (h : abuildSlice E s t len ps = some (r, s')) (hl : ps.length = qs.size)
    (hh : ∀ (i : Nat) (a : Nat × AV) (b : Nat × Value), ps[i]? = some a → qs[i]? = some b → a.1 = b.1 ∧ VR μ s w a.2 b.2) : Yld E n0 W μ s w ((Instr.buildSlice t len qs).run E.P w) r s' := by
  unfold abuildSlice at h
  split at h
  · rename_i y hy
    obtain ⟨x, e, hx, hd, he⟩ := elemOfT_parts hy
    split at h
    · rename_i hc
      split at h
      · rename_i cs hcs
        simp only [Option.some.injEq, Prod.mk.injEq] at h
        obtain ⟨rfl, rfl⟩ := h
        obtain ⟨z, hzr, hzl⟩ := run_zero' he w
        have hzs : z.cells.size = y.size := by rw [← hc.2, ← hzl]; simp
        have hzz : ∃ zz : Array Value, (if len * y.size = 0 then zz = #[] else zz = (Array.range (len * y.size)).map (z.cells[· % z.cells.size]!)) ∧ zz.toList = (List.replicate len y.zero).flatten := by
          by_cases h0 : len * y.size = 0
          · refine ⟨#[], by simp [h0], ?_⟩
            symm
            rw [List.eq_nil_iff_length_eq_zero]
            simp only [List.length_flatten, List.map_replicate, List.sum_replicate_nat, hc.2]
            exact h0
          · refine ⟨(Array.range (len * y.size)).map (z.cells[· % z.cells.size]!), by simp [h0], ?_⟩
            rw [← hzs, zeros_get _ _ (by rw [hzs]; exact fun h1 => h0 (by simp [h1])), hzl]
        obtain ⟨zz, hz1, hz2⟩ := hzz
        have hzv : VRs μ s w (List.replicate len (y.zero.map ofConst)).flatten zz := VRs.flat _ _ _ hz2
        obtain ⟨us, h1, h2, h3⟩ := fill_sound _ ps qs.toList _ _ _ hcs (by simpa using hl) (by simpa using hh) hzv
        have hcl : cs.length = len * y.size := by
          rw [h3]
          simp [hc.2]
        have hus : us.size = len * y.size := by rw [← h2.1, hcl]
        obtain ⟨μ', a1, a2, a3⟩ := newRow_sound (n0 := n0) (W := W) hR e y.size true (chunks y.size len cs) us len (by rw [chunks_length]; exact Nat.le_refl _) (by omega) (chunks_mem hcl) (fun i j x hx => by
          obtain ⟨hi, hj, hx⟩ := get2_chunks hx
          have hlt : i * y.size + j < us.size := by rw [hus]; exact idx_lt hi hj
          exact ⟨us[i * y.size + j], Array.getElem?_eq_getElem hlt, h2.2 _ _ _ hx (Array.getElem?_eq_getElem hlt)⟩)
        rw [chunks_length] at a1
        rw [elemId_eq hx hd]
        refine ⟨_, _, μ', ?_, a1, a2, a3⟩
        have hn : ¬ (len * y.size > 2 ^ 24) := by omega
        have h1' : Instr.fill (fun i => some (i * y.size, y.size)) zz qs.toList = some us := h1
        simp only [Instr.buildSlice, Sem.run_bind, run_underlying' hx, Result.andThen_ok, hd, run_sizeOf' he, hn, if_false]
        by_cases h0 : len * y.size = 0
        · simp only [h0, if_true] at hz1
          subst hz1
          simp only [h0, if_true, Sem.run_bind, Sem.run_pure, Result.andThen_ok]
          have hz0 : ∀ f : Nat → Value, (Array.range 0).map f = #[] := fun f => by simp
          simp only [hz0, h1']
          simp only [newRow, Sem.run_bind, run_newObj, Result.andThen_ok, Sem.run_pure]
          rfl
        · simp only [h0, if_false] at hz1
          subst hz1
          simp only [h0, if_false, Sem.run_bind, Sem.run_pure, Result.andThen_ok, hzr, h1']
          simp only [newRow, Sem.run_bind, run_newObj, Result.andThen_ok, Sem.run_pure]
          rfl
      · cases h
    · cases h
  · cases h
end
end Go.Am
namespace Go.Am
section
variable {E : Env} {n0 : Nat} {W : Nat → Prop} {μ μ' : Mu} {s s' : St} {w w' : World}

theorem wrap64_id {n : Int} (h0 : 0 ≤ n) (h1 : n ≤ 9223372036854775807) : IntKind.i64.wrap n = n := by
  unfold IntKind.wrap
  simp [IntKind.bits, IntKind.signed]
  omega

theorem get2_replicate {α : Type} {n : Nat} {z : List α} {i j : Nat} {x : α} (h : get2 (List.replicate n z) i j = some x) : i < n ∧ z[j]? = some x := by
  unfold get2 at h
  by_cases hi : i < n
  · simp [List.getElem?_replicate, hi] at h
    exact ⟨hi, h⟩
  · simp [List.getElem?_replicate, hi] at h

theorem replicate_flatten_get {α : Type} (z : List α) (sz : Nat) (hz : z.length = sz) : ∀ (m i j : Nat), i < m → j < sz → ((List.replicate m z).flatten)[i * sz + j]? = z[j]?
  | 0, i, j, hi, _ => by omega
  | m + 1, 0, j, _, hj => by
    rw [List.replicate_succ, List.flatten_cons, List.getElem?_append, hz]
    simp [hj]
  | m + 1, i + 1, j, hi, hj => by
    rw [List.replicate_succ, List.flatten_cons, List.getElem?_append, hz, if_neg (by rw [Nat.succ_mul]; omega)]
    rw [show (i + 1) * sz + j - sz = i * sz + j by rw [Nat.succ_mul]; omega]
    exact replicate_flatten_get z sz hz m i j (by omega) hj

/-- make -/
theorem make_sound (hR : Rel E μ s w) {t : TypeId} {k k' : IntKind} {l c : Int} {r : AV} (h : amake E s t l c = some (r, s')) :
    Yld E n0 W μ s w ((Instr.makeSlice t (.int k l) (.int k' c)).run E.P w) r s' := by
  unfold amake at h
  split at h
  · rename_i y hy
    obtain ⟨x, e, hx, hd, he⟩ := elemOfT_parts hy
    split at h
    · rename_i hc
      obtain ⟨h0, h1, h2, h3, h4⟩ := hc
      simp only [Option.some.injEq, Prod.mk.injEq] at h
      obtain ⟨rfl, rfl⟩ := h
      obtain ⟨i, hi, hib, his⟩ := run_bytes' he w
      obtain ⟨z, hzr, hzl⟩ := run_zero' he w
      have hzs : z.cells.size = y.size := by rw [← h3, ← hzl]; simp
      have hc0 : 0 ≤ c := by omega
      have hcb : c ≤ 2 ^ 47 := by
        have : c * 1 ≤ c * (y.bytes : Int) := Int.mul_le_mul_of_nonneg_left (by omega) hc0
        omega
      have hwl : IntKind.i64.wrap l = l := wrap64_id h0 (by omega)
      have hwc : IntKind.i64.wrap c = c := wrap64_id hc0 (by omega)
      have hbig : ¬ (c < 0 ∨ 2 ^ 48 < (i.bytes : Int) * c) := by
        rw [hib, Int.mul_comm]
        omega
      obtain ⟨zz, hz1, hz2⟩ : ∃ zz : Array Value, (if c.toNat * y.size = 0 then zz = #[] else zz = (Array.range (c.toNat * y.size)).map (z.cells[· % z.cells.size]!)) ∧ zz.toList = (List.replicate c.toNat y.zero).flatten := by
        by_cases h0 : c.toNat * y.size = 0
        · refine ⟨#[], by simp [h0], ?_⟩
          symm
          rw [List.eq_nil_iff_length_eq_zero]
          simp only [List.length_flatten, List.map_replicate, List.sum_replicate_nat, h3]
          exact h0
        · refine ⟨(Array.range (c.toNat * y.size)).map (z.cells[· % z.cells.size]!), by simp [h0], ?_⟩
          rw [← hzs, zeros_get _ _ (by rw [hzs]; exact fun h1 => h0 (by simp [h1])), hzl]
      have hzv : VRs μ s w (List.replicate c.toNat (y.zero.map ofConst)).flatten zz := VRs.flat _ _ _ hz2
      have hzsz : zz.size = c.toNat * y.size := by rw [← hzv.1]; simp [h3]
      have hlc : l.toNat ≤ c.toNat := by omega
      obtain ⟨μ', a1, a2, a3⟩ := newRow_sound (n0 := n0) (W := W) hR e y.size true (List.replicate l.toNat (y.zero.map ofConst)) zz c.toNat (by simpa using hlc) (by omega) (fun q hq => by rw [List.eq_of_mem_replicate hq]; simpa using h3) (fun i j x hx => by
        obtain ⟨hi, hxx⟩ := get2_replicate hx
        have hj : j < y.size := by rw [← h3]; simpa using (List.getElem?_eq_some_iff.1 hxx).1
        have hlt : i * y.size + j < zz.size := by rw [hzsz]; exact idx_lt (by omega) hj
        refine ⟨zz[i * y.size + j], Array.getElem?_eq_getElem hlt, ?_⟩
        have hzz : zz[i * y.size + j]? = y.zero[j]? := by
          have e1 : zz[i * y.size + j]? = (zz.toList)[i * y.size + j]? := by simp
          rw [e1, hz2]
          exact replicate_flatten_get y.zero y.size h3 c.toNat i j (by omega) hj
        rw [Array.getElem?_eq_getElem hlt] at hzz
        simp only [List.getElem?_map] at hxx
        rw [← hzz] at hxx
        simp only [Option.map_some, Option.some.injEq] at hxx
        rw [← hxx]
        exact .const _)
      rw [List.length_replicate] at a1
      rw [elemId_eq hx hd]
      refine ⟨_, _, μ', ?_, a1, a2, a3⟩
      have hcond : ¬ (((decide (c < 0) || decide ((i.bytes : Int) * c > 2 ^ 48)) || decide (l < 0) || decide (l > c)) = true) := by
        simp only [Bool.or_eq_true, decide_eq_true_eq, gt_iff_lt]
        omega
      simp only [Instr.makeSlice, Sem.run_bind, run_underlying' hx, Result.andThen_ok, hd, asInt, asIntOf, Sem.run_pure, hi, hwl, hwc, hcond, if_false, Bool.false_eq_true, run_askRoom, run_sizeOf' he]
      by_cases h0 : c.toNat * y.size = 0
      · simp only [h0, if_true] at hz1
        subst hz1
        have hz0 : ∀ f : Nat → Value, (Array.range 0).map f = #[] := fun f => by simp
        simp only [h0, if_true, Sem.run_bind, Sem.run_pure, Result.andThen_ok, hz0, newRow, run_newObj]
        rfl
      · simp only [h0, if_false] at hz1
        subst hz1
        simp only [h0, if_false, Sem.run_bind, Sem.run_pure, Result.andThen_ok, hzr, newRow, run_newObj]
        rfl
    · cases h
  · cases h
end
end Go.Am
namespace Go.Am

def afield (E : Env) (t : TypeId) (x : AV) (f : Nat) : Option AV :=
  match fieldOf E t f, x with
  | some (off, y), .agg cs => if off + y.size ≤ cs.length then ofCells y.agg ((cs.drop off).take y.size) else none
  | _, _ => none
def aextract (x : AV) (i : Nat) : Option AV :=
  match x with
  | .tup vs => vs[i]?
  | _ => none
/-- x[i], x a text or an array. -/
def aidx (E : Env) (t : TypeId) (x : AV) (i : Int) : Option AV :=
  match x with
  | .str b => if 0 ≤ i then match b[i.toNat]? with
    | some c => some (.int .u8 (c.toNat : Int))
    | none => none
    else none
  | .agg cs => match arrOfT E t with
    | some (n, y) => if 0 ≤ i ∧ i < n ∧ i.toNat * y.size + y.size ≤ cs.length then ofCells y.agg ((cs.drop (i.toNat * y.size)).take y.size) else none
    | none => none
  | _ => none
def aunop (op : UnOp) (x : AV) : Option AV :=
  match op, x with
  | .neg, .int k n => some (.int k (k.wrap (0 - n)))
  | .not, .bool b => some (.bool (!b))
  | .xor, .int k n => aint .xor k (if k.signed then -1 else k.max) n
  | _, _ => none
def byteOf : List AV → Option UInt8
  | [.int .u8 n] => some (UInt8.ofNat n.toNat)
  | _ => none
def AV.isStr : AV → Bool
  | .str _ => true
  | _ => false
def aconvert (E : Env) (s : St) (src dst : TypeId) (x : AV) : Option AV :=
  match E.ti src, E.ti dst with
  | some a, some b => match a.desc, b.desc, x with
    | .int _, .int k, .int _ n => some (.int k (k.wrap n))
    | .string, .string, .str t => some (.str t)
    | .slice e, .string, x => if x.isStr then none else match E.ti e with
      | some y => match y.desc, ard s x with
        | .int .u8, some ys => match ys.mapM byteOf with
          | some bs => if y.size = 1 then some (.str bs) else none
          | none => none
        | _, _ => none
      | none => none
    | _, _, _ => none
  | _, _ => none
section
variable {E : Env} {n0 : Nat} {W : Nat → Prop} {μ μ' : Mu} {s s' : St} {w w' : World}

theorem ofCells_part {t : TypeId} {y : TI} (ht : E.ti t = some y) {cs : List AV} {vs : Array Value} (hv : VRs μ s w cs vs) {off : Nat} (ho : off + y.size ≤ cs.length) {r : AV}
    (h : ofCells y.agg ((cs.drop off).take y.size) = some r) : ∃ v, (part t vs off).run E.P w = .ok v w ∧ VR μ s w r v := by
  unfold ofCells at h
  have hl := hv.1
  cases hya : y.agg with
  | true =>
    simp only [hya, if_true, Option.some.injEq] at h
    subst h
    have he := hv.extract off y.size (by omega)
    refine ⟨.agg (vs.extract off (off + y.size)), ?_, .agg _ _ he.1 he.2⟩
    simp only [part, Sem.run_bind, run_isAgg' ht, Result.andThen_ok, hya, if_true, run_sizeOf' ht, Sem.run_pure]
  | false =>
    simp only [hya, Bool.false_eq_true, if_false] at h
    cases hd : (cs.drop off).take y.size with
    | nil => simp [hd] at h
    | cons x l =>
      cases l with
      | cons _ _ => simp [hd] at h
      | nil =>
        simp only [hd, Option.some.injEq] at h
        subst h
        have hx : ((cs.drop off).take y.size)[0]? = some x := by simp [hd]
        obtain ⟨_, hx⟩ := take_drop_get _ _ _ _ _ hx
        rw [Nat.add_zero] at hx
        have hlt : off < vs.size := by rw [← hl]; exact (List.getElem?_eq_some_iff.1 hx).1
        refine ⟨vs[off], ?_, hv.2 off x _ hx (Array.getElem?_eq_getElem hlt)⟩
        simp only [part, Sem.run_bind, run_isAgg' ht, Result.andThen_ok, hya, Bool.false_eq_true, if_false, Array.getElem?_eq_getElem hlt, Sem.run_pure]

theorem field_sound (hR : Rel E μ s w) {t : TypeId} {f : Nat} {x r : AV} {v : Value} (h : afield E t x f = some r) (hv : VR μ s w x v) : Yld E n0 W μ s w ((Instr.field t v f).run E.P w) r s := by
  unfold afield at h
  split at h
  · rename_i off y cs hf
    obtain ⟨tx, fs, fl, hx, hfs, hfl, rfl, hty⟩ := fieldOf_parts hf
    split at h
    · rename_i ho
      cases hv with
      | agg _ vs hl hh =>
        obtain ⟨u, hu, hr⟩ := ofCells_part (w := w) hty ⟨hl, hh⟩ ho h
        have : (Instr.field t (.agg vs) f).run E.P w = .ok u w := by
          simp only [Instr.field, Sem.run_bind, run_underlying' hx, Result.andThen_ok, hfs, hfl, asAgg, Sem.run_pure, hu]
        rw [this]
        exact Yld.pure hR hr
    · cases h
  · cases h

theorem extract_sound (hR : Rel E μ s w) {i : Nat} {x r : AV} {v : Value} (h : aextract x i = some r) (hv : VR μ s w x v) : Yld E n0 W μ s w ((Instr.extract v i).run E.P w) r s := by
  cases hv <;> simp only [aextract] at h <;> first | cases h | skip
  rename_i cs vs hl hh
  have hi : i < vs.size := by rw [← hl]; exact (List.getElem?_eq_some_iff.1 h).1
  have : (Instr.extract (.tuple vs) i).run E.P w = .ok vs[i] w := by simp [Instr.extract, hi]
  rw [this]
  exact Yld.pure hR (hh i r _ h (Array.getElem?_eq_getElem hi))

theorem idx_sound (hR : Rel E μ s w) {t : TypeId} {tx : TI} (ht : E.ti t = some tx) {x r : AV} {v : Value} {k : IntKind} {i : Int} (hstr : (∃ b, x = .str b) → tx.desc = .string) (h : aidx E t x i = some r) (hv : VR μ s w x v) :
    Yld E n0 W μ s w ((Instr.index t v (.int k i)).run E.P w) r s := by
  cases hv with
  | str b =>
    simp only [aidx] at h
    split at h
    · rename_i h0
      split at h
      · rename_i c hc
        obtain rfl := Option.some.inj h
        have hlt : i.toNat < b.size := by
          have := (List.getElem?_eq_some_iff.1 hc).1
          simpa using this
        have hb : b[i.toNat]? = some c := by
          have e1 : b[i.toNat]? = some b[i.toNat] := by simp [hlt]
          rw [e1]
          have e2 : b.data.toList[i.toNat]? = some b.data[i.toNat] := by
            have : i.toNat < b.data.size := hlt
            simp [this]
          rw [hc] at e2
          simp only [Option.some.injEq] at e2 ⊢
          rw [e2]
          rfl
        have : (Instr.index t (.string b) (.int k i)).run E.P w = .ok (.int .u8 c.toNat) w := by
          simp only [Instr.index, asIntOf, Sem.run_bind, Sem.run_pure, Result.andThen_ok, run_underlying' ht, hstr ⟨_, rfl⟩, h0, if_true, hb]
        rw [this]
        exact Yld.pure hR (.int _ _)
      · cases h
    · cases h
  | agg cs vs hl hh =>
    simp only [aidx] at h
    split at h
    · rename_i n y hn
      obtain ⟨tx', e, hx', he, hy⟩ := arrOfT_parts hn
      obtain rfl := Option.some.inj (ht.symm.trans hx')
      split at h
      · rename_i hc
        obtain ⟨u, hu, hr⟩ := ofCells_part (w := w) hy ⟨hl, hh⟩ hc.2.2 h
        have : (Instr.index t (.agg vs) (.int k i)).run E.P w = .ok u w := by
          simp only [Instr.index, asIntOf, Sem.run_bind, Sem.run_pure, Result.andThen_ok, run_underlying' ht, he, hc.1, hc.2.1, and_self, if_true, run_sizeOf' hy, hu]
        rw [this]
        exact Yld.pure hR hr
      · cases h
    · cases h
  | _ => simp [aidx] at h

theorem unop_sound (hR : Rel E μ s w) {op : UnOp} {x r : AV} {v : Value} (h : aunop op x = some r) (hv : VR μ s w x v) : Yld E n0 W μ s w ((Op.unary op v).run E.P w) r s := by
  unfold aunop at h
  split at h
  · obtain rfl := Option.some.inj h
    cases hv
    simp only [Op.unary, Op.intArith, Sem.run_pure]
    exact Yld.pure hR (.int _ _)
  · obtain rfl := Option.some.inj h
    cases hv
    simp only [Op.unary, Sem.run_pure]
    exact Yld.pure hR (.bool _)
  · cases hv
    rename_i k n
    obtain ⟨v, h1, h2⟩ := aint_sound (E := E) (μ := μ) (s := s) (w := w) h 0
    have : (Op.unary .xor (.int k n)).run E.P w = .ok v w := by
      rw [← h1]
      simp [Op.unary, binOp]
    rw [this]
    exact Yld.pure hR h2
  · cases h
end
end Go.Am
namespace Go.Am
section
variable {E : Env} {n0 : Nat} {W : Nat → Prop} {μ μ' : Mu} {s s' : St} {w w' : World}

theorem mapM_byteOf : ∀ {ys : List (List AV)} {bs : List UInt8}, ys.mapM byteOf = some bs → ∃ ns : List Int, ys = ns.map (fun n => [AV.int .u8 n]) ∧ bs = ns.map fun n => UInt8.ofNat n.toNat
  | [], bs, h => by
    simp at h
    subst h
    exact ⟨[], rfl, rfl⟩
  | y :: ys, bs, h => by
    simp only [List.mapM_cons, Option.bind_eq_bind, Option.pure_def] at h
    cases hy : byteOf y with
    | none => simp [hy] at h
    | some b =>
      cases hr : ys.mapM byteOf with
      | none => simp [hy, hr] at h
      | some rest =>
        simp [hy, hr] at h
        subst h
        obtain ⟨ns, h1, h2⟩ := mapM_byteOf hr
        unfold byteOf at hy
        split at hy
        · rename_i n
          simp only [Option.some.injEq] at hy
          exact ⟨n :: ns, by simp [h1], by simp [h2, hy]⟩
        · cases hy

theorem convert_sound (hR : Rel E μ s w) {src dst : TypeId} {x r : AV} {v : Value} (h : aconvert E s src dst x = some r) (hv : VR μ s w x v) : Yld E n0 W μ s w ((convert src dst v).run E.P w) r s := by
  unfold aconvert at h
  split at h
  · rename_i a b ha hb
    have hua := run_underlying' (E := E) ha w
    have hub := run_underlying' (E := E) hb w
    split at h
    · rename_i k1 k2 k3 n hda hdb
      obtain rfl := Option.some.inj h
      cases hv
      have : (convert src dst (.int k3 n)).run E.P w = .ok (.int k2 (k2.wrap n)) w := by
        simp [convert, hua, hub, hda, hdb, Conv.intToInt]
      rw [this]
      exact Yld.pure hR (.int _ _)
    · rename_i t hda hdb
      obtain rfl := Option.some.inj h
      cases hv with
      | str b0 =>
      have : (convert src dst (.string b0)).run E.P w = .ok (.string b0) w := by
        simp [convert, hua, hub, hda, hdb]
      rw [this]
      exact Yld.pure hR (.str _)
    · rename_i e hda hdb
      split at h <;> rename_i hstr0
      · cases h
      split at h
      · rename_i y hy
        split at h
        · rename_i ys hyd hys
          split at h
          · rename_i bs hbs
            split at h
            · rename_i hsz
              obtain rfl := Option.some.inj h
              obtain ⟨ns, rfl, rfl⟩ := mapM_byteOf hbs
              obtain ⟨_, hus, _⟩ := ti_parts ha
              obtain ⟨_, hue, _⟩ := ti_parts hy
              obtain ⟨_, hud, _⟩ := ti_parts hb
              rw [hda] at hus
              rw [hyd] at hue
              rw [hdb] at hud
              have key : ∀ (A : Option Addr) (n c : Nat), v = .slice A n c → (convert src dst v).run E.P w = .ok (.string (strOfNums ns)) w := by
                rintro A n c rfl
                rw [run_convert_bytes_string w src dst e A n c hus hue hud]
                obtain ⟨hlen, g, hg, hf⟩ := firstCells_sound hR hys (sz := 1) (by intro q hq; obtain ⟨m, _, rfl⟩ := List.mem_map.1 hq; rfl) hv _ (Nat.le_refl _) (fun _ => rfl)
                simp only [Builtin.lenOf, Sem.run_pure, Result.ok.injEq, and_true, List.length_map] at hlen
                subst hlen
                cases A with
                | none =>
                  simp only [Builtin.firstCells, Sem.run_pure, Result.ok.injEq, and_true] at hg
                  have : ns = [] := by
                    have := congrArg Array.size hg
                    simp at this
                    exact List.eq_nil_of_length_eq_zero this.symm
                  subst this
                  simp [Conv.bytesToString, strOfNums]
                  rfl
                | some a =>
                  have hl : (loadCells a ns.length).run E.P w = .ok (ns.map (Value.int .u8)).toArray w := by
                    simp only [Builtin.firstCells, Nat.mul_one, List.length_map] at hg
                    rw [hg]
                    congr 2
                    apply List.ext_getElem
                    · simp
                    · intro i h1 h2
                      simp at h1 h2
                      have := hf i 0 (.int .u8 ns[i]) (by simp [get2, h1])
                      simp only [Nat.mul_one, Nat.add_zero] at this
                      simp only [List.getElem_map, List.getElem_range]
                      generalize g i = u at this
                      cases this
                      rfl
                  rw [run_bytesToString w a ns.length c ns hl, foldl_push_bytes]
                  simp [strOfNums, ByteArray.empty, ByteArray.emptyWithCapacity]
                  rfl
              have hsl : ∃ A n c, v = .slice A n c := by
                cases hv with
                | nsl => exact ⟨_, _, _, rfl⟩
                | slnil => exact ⟨_, _, _, rfl⟩
                | sl => exact ⟨_, _, _, rfl⟩
                | ls id off len v _ hn hp =>
                  simp only [ard] at hys
                  split at hys
                  · rename_i hs
                    rcases hp _ _ _ hs with ⟨_, a0, rfl⟩ | ⟨p, cap, _, rfl, _, _⟩
                    · exact ⟨_, _, _, rfl⟩
                    · exact ⟨_, _, _, rfl⟩
                  · cases hys
                | str b0 => exact absurd rfl hstr0
                | _ => simp [ard] at hys
              obtain ⟨A, n, c, hA⟩ := hsl
              rw [key A n c hA]
              refine Yld.pure hR ?_
              rw [← strOfNums_data]
              exact .str _
            · cases h
          · cases h
        · cases h
      · cases h
    · cases h
  · cases h
end
end Go.Am
namespace Go.Am

def isConst : Operand → Bool
  | .const _ => true
  | _ => false
/-- Equality of two values that are no numbers and no texts. -/
def aeq (E : Env) (s : St) (t : TypeId) (a b : AV) : Option Bool :=
  match E.ti t with
  | none => none
  | some x => match x.desc, a, b with
    | .bool, .bool p, .bool q => some (p == q)
    | .pointer _, .np, .np => some true
    | .pointer _, .ptr id _, .np => if s.live id then some false else none
    | .pointer _, .np, .ptr id _ => if s.live id then some false else none
    | .pointer _, .rp _, .np => some false
    | .pointer _, .np, .rp _ => some false
    | .slice _, .nsl, .nsl => some true
    | .slice _, .ls id _ len, .nsl => match s.get id with
      | some (.row _ _ _) => if 0 < len then some false else none
      | _ => none
    | .map _ _, .nmap, .nmap => some true
    | .map _ _, .map id, .nmap => if s.live id then some false else none
    | .interface _, .nif, .nif => some true
    | .interface _, .ifc _ _, .nif => some false
    | .func _ _ _, .fn _ _ _, .nfn => some false
    | .func _ _ _, .nfn, .nfn => some true
    | .struct _, .agg cs, .agg ds => if x.guarded then none else
      match kindsT E 9 t with
      | some ks => if cs.map AV.ck = ks.map some ∧ ds.map AV.ck = ks.map some then avseq cs ds else none
      | none => none
    | .pointer u, .ptr id o, .ptr id' o' => if (id' = id ∧ o' = o) ∧ s.live id = true ∧ (E.ti u).isSome = true then some true else none
    | _, _, _ => none

section
variable {E : Env} {n0 : Nat} {W : Nat → Prop} {μ μ' : Mu} {s s' : St} {w w' : World}

/-- What '==' and '!=' come to: the same, but for 'not'. -/
def eqres (op : BinOp) (r : Bool) : Bool := match op with
  | .neq => !r
  | _ => r

theorem eq_run {op : BinOp} {t : TypeId} {x y : Operand} {va vb : Value} {r : Bool}
    (hg : (eqGuard op t x y va vb).run E.P w = .ok () w)
    (hn : (binOp op t va vb).run E.P w = ((Op.equal t va vb).run E.P w).andThen fun b w' => .ok (.bool (eqres op b)) w') (he : (Op.equal t va vb).run E.P w = .ok r w) :
    (do eqGuard op t x y va vb; binOp op t va vb : Sem Value).run E.P w = .ok (.bool (eqres op r)) w := by
  simp only [Sem.run_bind, hg, Result.andThen_ok, hn, he]

theorem eq_sound {op : BinOp} (hop : op = .eql ∨ op = .neq) {t : TypeId} {x y : Operand} {a b : AV} {va vb : Value} {r : Bool}
    (hc : a = .nif → b = .nif → isConst x = true ∨ isConst y = true) (h : aeq E s t a b = some r) (ha : VR μ s w a va) (hb : VR μ s w b vb) :
    (do eqGuard op t x y va vb; binOp op t va vb : Sem Value).run E.P w = .ok (.bool (eqres op r)) w := by
  unfold aeq at h
  split at h
  · cases h
  · rename_i tx htx
    obtain ⟨_, hu, hagg, hheld, hgd⟩ := ti_parts htx
    have hur := run_underlying' htx w
    have simple : ∀ r0 : Bool, (∀ d, (Op.equalIn (d + 1) t va vb).run E.P w = .ok r0 w) → (eqGuard op t x y va vb).run E.P w = .ok () w →
        ((binOp op t va vb).run E.P w = ((Op.equal t va vb).run E.P w).andThen fun b w' => .ok (.bool (eqres op b)) w') →
        (do eqGuard op t x y va vb; binOp op t va vb : Sem Value).run E.P w = .ok (.bool (eqres op r0)) w := fun r0 h1 h2 h3 => eq_run h2 h3 (h1 9999)
    split at h
    case h_1 hd =>
      obtain rfl := Option.some.inj h
      cases ha; cases hb
      exact simple _ (fun d => by simp [Op.equalIn, hur, hd]) (by rcases hop with rfl | rfl <;> simp [eqGuard]) (by rcases hop with rfl | rfl <;> simp [binOp, eqres])
    case h_2 hd =>
      obtain rfl := Option.some.inj h
      cases ha; cases hb
      exact simple _ (fun d => by simp [Op.equalIn, hur, hd]) (by rcases hop with rfl | rfl <;> simp [eqGuard]) (by rcases hop with rfl | rfl <;> simp [binOp, eqres])
    case h_3 hd =>
      split at h <;> rename_i hl
      · obtain rfl := Option.some.inj h
        cases hb
        cases ha with
        | ptr _ _ v _ hn hp =>
        obtain ⟨o, ho⟩ := St.live_some hl
        obtain ⟨p, hq, rfl⟩ := hp o ho
        exact simple _ (fun d => by simp [Op.equalIn, hur, hd]) (by rcases hop with rfl | rfl <;> simp [eqGuard]) (by rcases hop with rfl | rfl <;> simp [binOp, eqres])
      · cases h
    case h_4 hd =>
      split at h <;> rename_i hl
      · obtain rfl := Option.some.inj h
        cases ha
        cases hb with
        | ptr _ _ v _ hn hp =>
        obtain ⟨o, ho⟩ := St.live_some hl
        obtain ⟨p, hq, rfl⟩ := hp o ho
        exact simple _ (fun d => by simp [Op.equalIn, hur, hd]) (by rcases hop with rfl | rfl <;> simp [eqGuard]) (by rcases hop with rfl | rfl <;> simp [binOp, eqres])
      · cases h
    case h_5 hd =>
      obtain rfl := Option.some.inj h
      cases ha; cases hb
      exact simple _ (fun d => by simp [Op.equalIn, hur, hd]) (by rcases hop with rfl | rfl <;> simp [eqGuard]) (by rcases hop with rfl | rfl <;> simp [binOp, eqres])
    case h_6 hd =>
      obtain rfl := Option.some.inj h
      cases ha; cases hb
      exact simple _ (fun d => by simp [Op.equalIn, hur, hd]) (by rcases hop with rfl | rfl <;> simp [eqGuard]) (by rcases hop with rfl | rfl <;> simp [binOp, eqres])
    case h_7 hd =>
      obtain rfl := Option.some.inj h
      cases ha; cases hb
      exact simple _ (fun d => by simp [Op.equalIn, hur, hd]) (by rcases hop with rfl | rfl <;> simp [eqGuard]) (by rcases hop with rfl | rfl <;> simp [binOp, eqres])
    case h_8 hd =>
      split at h
      · rename_i hs
        split at h <;> rename_i hl
        · obtain rfl := Option.some.inj h
          cases hb
          cases ha with
          | ls _ _ _ v _ hn hp =>
          rcases hp _ _ _ hs with ⟨h0, _⟩ | ⟨p, cap, hq, rfl, _⟩
          · omega
          · exact simple _ (fun d => by simp [Op.equalIn, hur, hd]) (by rcases hop with rfl | rfl <;> simp [eqGuard]) (by rcases hop with rfl | rfl <;> simp [binOp, eqres])
        · cases h
      · cases h
    case h_9 hd =>
      obtain rfl := Option.some.inj h
      cases ha; cases hb
      exact simple _ (fun d => by simp [Op.equalIn, hur, hd]) (by rcases hop with rfl | rfl <;> simp [eqGuard]) (by rcases hop with rfl | rfl <;> simp [binOp, eqres])
    case h_10 hd =>
      split at h <;> rename_i hl
      · obtain rfl := Option.some.inj h
        cases hb
        cases ha with
        | map _ v _ hn hp =>
        obtain ⟨o, ho⟩ := St.live_some hl
        obtain ⟨p, hq, rfl⟩ := hp o ho
        exact simple _ (fun d => by simp [Op.equalIn, hur, hd]) (by rcases hop with rfl | rfl <;> simp [eqGuard]) (by rcases hop with rfl | rfl <;> simp [binOp, eqres])
      · cases h
    case h_11 hd =>
      obtain rfl := Option.some.inj h
      cases ha; cases hb
      have hcc := hc rfl rfl
      exact simple _ (fun d => by simp [Op.equalIn, hur, hd]) (by
        rcases hop with rfl | rfl <;> cases x <;> cases y <;> simp_all [eqGuard, isConst]) (by rcases hop with rfl | rfl <;> simp [binOp, eqres])
    case h_12 hd =>
      obtain rfl := Option.some.inj h
      cases ha; cases hb
      exact simple _ (fun d => by simp [Op.equalIn, hur, hd]) (by rcases hop with rfl | rfl <;> simp [eqGuard]) (by rcases hop with rfl | rfl <;> simp [binOp, eqres])
    case h_13 hd =>
      obtain rfl := Option.some.inj h
      cases ha; cases hb
      exact simple _ (fun d => by simp [Op.equalIn, hur, hd]) (by rcases hop with rfl | rfl <;> simp [eqGuard]) (by rcases hop with rfl | rfl <;> simp [binOp, eqres])
    case h_14 hd =>
      obtain rfl := Option.some.inj h
      cases ha; cases hb
      exact simple _ (fun d => by simp [Op.equalIn, hur, hd]) (by rcases hop with rfl | rfl <;> simp [eqGuard]) (by rcases hop with rfl | rfl <;> simp [binOp, eqres])
    case h_15 fs cs ds hd =>
      split at h <;> rename_i hgx
      · cases h
      · split at h
        · rename_i ks hks
          split at h
          · rename_i hck
            have hag : tx.agg = true := by rw [hagg, hd]; rfl
            cases ha with
            | agg _ us h1 h2 =>
            cases hb with
            | agg _ vs h3 h4 =>
            have hgg : E.P.eqGuardType E.P.depth t = false := by
              rw [hag, Bool.true_and] at hgd
              rw [← hgd]
              simpa using hgx
            have he := equalIn_plain (μ := μ) (s := s) (w := w) 9 t tx ks 10000 (.agg us) (.agg vs) cs ds r hks htx (by omega) (fun _ => ⟨_, rfl⟩) (fun _ => ⟨_, rfl⟩) (fun hf => by rw [hag] at hf; cases hf) (fun hf => by rw [hag] at hf; cases hf) ⟨h1, h2⟩ ⟨h3, h4⟩ hck.1 hck.2 h
            exact eq_run (run_eqGuard_agg w op t x y us vs hgg) (by rcases hop with rfl | rfl <;> simp [binOp, eqres]) he
          · cases h
        · cases h
    case h_16 u id o id' o' hd =>
      split at h
      · rename_i hcnd
        obtain ⟨⟨rfl, rfl⟩, hl, hti⟩ := hcnd
        obtain rfl := Option.some.inj h
        obtain ⟨tu, htu⟩ := Option.isSome_iff_exists.1 hti
        obtain ⟨⟨i, hi, _⟩, _⟩ := ti_parts htu
        obtain ⟨ob, hob⟩ := St.live_some hl
        cases ha with
        | ptr _ _ v1 _ hn hp =>
        cases hb with
        | ptr _ _ v2 _ hn2 hp2 =>
        obtain ⟨p, hq, rfl⟩ := hp ob hob
        obtain ⟨p2, hq2, rfl⟩ := hp2 ob hob
        obtain rfl : p2 = p := Option.some.inj (hq2.symm.trans hq)
        exact simple _ (fun d => by simp [Op.equalIn, hur, hd, sizeOf, typeInfo, hi, run_sameAddr_same]) (by rcases hop with rfl | rfl <;> simp [eqGuard]) (by rcases hop with rfl | rfl <;> simp [binOp, eqres])
      · cases h
    case h_17 => cases h
end
end Go.Am
namespace Go.Am

def acopy (s : St) (d : AV) (ys : List (List AV)) (sz : Nat) : Option (Nat × St) :=
  match d with
  | .ls id off len => match s.get id with
    | some (.row sz' (true, ty) es) => if sz' = sz ∧ off + len ≤ es.length ∧ (ys.all (fun y => y.length == sz && y.all AV.one) || (ys.all (fun y => y.length == sz) && (ys.take (min ys.length len)).all (fun y => y.all AV.one))) then
        some (min ys.length len, s.put id (.row sz (true, ty) (splice es off (ys.take (min ys.length len))))) else none
    | _ => none
  | _ => none

section
variable {E : Env} {n0 : Nat} {W : Nat → Prop} {μ μ' : Mu} {s s' : St} {w w' : World}

theorem get2_splice {α : Type} (es xs : List (List α)) (off i j : Nat) (h : off + xs.length ≤ es.length) :
    get2 (splice es off xs) i j = if i < off then get2 es i j else if i < off + xs.length then get2 xs (i - off) j else get2 es i j := by
  unfold get2
  rw [splice_get _ _ _ h]
  by_cases h1 : i < off
  · simp [h1]
  · by_cases h2 : i < off + xs.length
    · simp [h1, h2]
    · simp [h1, h2]

theorem splice_mem {α : Type} {es xs : List α} {off : Nat} {x : α} (h : x ∈ splice es off xs) : x ∈ es ∨ x ∈ xs := by
  unfold splice at h
  simp only [List.mem_append] at h
  rcases h with (h | h) | h
  · exact .inl (List.mem_of_mem_take h)
  · exact .inr h
  · exact .inl (List.mem_of_mem_drop h)

/-- Elements stored into a row. -/
theorem rowStore_sound (hR : Rel E μ s w) {id off len sz : Nat} {es xs : List (List AV)} {v : Value} {ty : TypeId} (hs : s.get id = some (.row sz (true, ty) es)) (hm : May n0 W id) (hv : VR μ s w (.ls id off len) v)
    (hx : xs.length ≤ len) (hle : off + len ≤ es.length) (hall : ∀ x ∈ xs, x.length = sz) (g : Nat → Value) (hf : Flat μ s w sz xs g) (hone : ∀ k, k < xs.length * sz → (g k).oneCell' = true) :
    ∃ (a : Option Addr) (cap : Nat) (w' : World), v = .slice a len cap ∧ (match a with | some a => (storeCells a ((List.range (xs.length * sz)).map g)).run E.P w | none => .ok () w) = .ok () w' ∧
      Rel E μ (s.put id (.row sz (true, ty) (splice es off xs))) w' ∧ Fr n0 W μ s w μ (s.put id (.row sz (true, ty) (splice es off xs))) w' := by
  cases hv with
  | ls _ _ _ v _ hn hp =>
  have hputsame : xs = [] → s.put id (.row sz (true, ty) (splice es off xs)) = s := by
    rintro rfl
    have : splice es off [] = es := by simp [splice]
    rw [this]
    unfold St.put
    cases s with
    | mk nx get =>
    congr 1
    funext j
    by_cases e : j = id
    · subst e; simp; exact hs.symm
    · simp [e]
  rcases hp _ _ _ hs with ⟨rfl, a0, rfl⟩ | ⟨p, cap, hq, rfl, hlc, hcr⟩
  · have hx0 : xs = [] := List.eq_nil_of_length_eq_zero (by omega)
    refine ⟨a0, 0, w, rfl, ?_, ?_, ?_⟩
    · subst hx0
      cases a0 <;> simp [storeCells]
    · rw [hputsame hx0]; exact hR
    · rw [hputsame hx0]; exact hR.refl
  · obtain ⟨_, o, ho, hr⟩ := hR.obj id p hq
    obtain rfl : o = .row sz (true, ty) es := Option.some.inj (ho.symm.trans hs)
    obtain ⟨hsp, us, t, lo, hi, hh, hfr, hfr2, hroom, hroom2, hall2, hx0⟩ := hr
    obtain ⟨hfr, hty⟩ := hfr
    obtain ⟨rfl, rfl⟩ := hfr rfl
    have hmulA : (off + xs.length) * sz ≤ es.length * sz := Nat.mul_le_mul_right _ (by omega)
    rw [Nat.add_mul] at hmulA
    have b1 : (p.1.add (off * sz)).block = p.1.block := Addr.add_block _ _
    have b2 : (p.1.add (off * sz)).spot = none := by unfold Addr.add; split <;> simp [hsp]
    have b3 : (p.1.add (off * sz)).off = p.1.off + off * sz := by unfold Addr.add; split <;> simp_all
    have hnl : ((List.range (xs.length * sz)).map g).length = xs.length * sz := by simp
    have hsz : p.1.off + off * sz + ((List.range (xs.length * sz)).map g).length ≤ us.size := by rw [hnl]; omega
    have hst := run_storeCells' E.P (p.1.add (off * sz)) b2 t 0 0 ((List.range (xs.length * sz)).map g) 0 w us (by rw [b1]; exact hh)
      (fun u hu => by obtain ⟨k, hk, rfl⟩ := List.mem_map.1 hu; exact hone k (by simpa using hk)) (by rw [b3]; exact hsz) (by simp)
    rw [b1, b3, Nat.add_zero] at hst
    have hle2 : off + xs.length ≤ es.length := by omega
    refine ⟨_, cap, _, rfl, hst, Rel.put hR hq hs (.row sz (true, ty) (splice es off xs)) rfl _ fun s1 w1 F hw => ?_, Fr.put hR hq hm hs (.row sz (true, ty) (splice es off xs)) rfl _⟩
    refine ⟨hsp, _, t, 0, 0, hw, ⟨fun _ => ⟨rfl, rfl⟩, hty⟩, by simp, ?_, by rw [splice_length _ _ _ hle2]; exact hroom2, fun e he => (splice_mem he).elim (hall2 e) (hall e), fun i j x hx => ?_⟩
    · rw [asplice_size _ _ _ hsz]; exact hroom
    · have hallx : ∀ e ∈ splice es off xs, e.length = sz := fun e he => (splice_mem he).elim (hall2 e) (hall e)
      obtain ⟨hi, hj⟩ := get2_lt hallx hx
      rw [get2_splice _ _ _ _ _ hle2] at hx
      rw [asplice_get _ _ _ hsz, hnl]
      by_cases h1 : i < off
      · rw [if_pos h1] at hx
        have := idx_lt h1 hj
        rw [if_pos (by omega)]
        obtain ⟨u, hu, hvu⟩ := hx0 _ _ _ hx
        exact ⟨u, hu, hvu.mono F⟩
      · rw [if_neg h1] at hx
        have e1 : i * sz = off * sz + (i - off) * sz := by rw [← Nat.add_mul, Nat.add_sub_cancel' (by omega)]
        rw [if_neg (by omega)]
        by_cases h2 : i < off + xs.length
        · rw [if_pos h2] at hx
          have h3 := idx_lt (show i - off < xs.length by omega) hj
          rw [if_pos (by omega)]
          refine ⟨g ((i - off) * sz + j), ?_, (hf _ _ _ hx).mono F⟩
          rw [show p.1.off + (i * sz + j) - (p.1.off + off * sz) = (i - off) * sz + j by omega]
          simp [h3]
        · rw [if_neg h2] at hx
          have h4 : (off + xs.length) * sz ≤ i * sz := Nat.mul_le_mul_right _ (by omega)
          rw [Nat.add_mul] at h4
          rw [if_neg (by omega)]
          obtain ⟨u, hu, hvu⟩ := hx0 _ _ _ hx
          exact ⟨u, hu, hvu.mono F⟩

theorem flat_one {sz : Nat} {xs : List (List AV)} {g : Nat → Value} (hf : Flat μ s w sz xs g) (hall : ∀ x ∈ xs, x.length = sz) (hone : ∀ x ∈ xs, ∀ y ∈ x, y.one = true) (k : Nat) (hk : k < xs.length * sz) : (g k).oneCell' = true := by
  have h0 : 0 < sz := by
    rcases Nat.eq_zero_or_pos sz with h0 | h0
    · subst h0; simp at hk
    · exact h0
  have hi : k / sz < xs.length := Nat.div_lt_of_lt_mul (by rw [Nat.mul_comm]; exact hk)
  have hj : k % sz < sz := Nat.mod_lt _ h0
  have hl := hall _ (List.getElem_mem hi)
  have hg : get2 xs (k / sz) (k % sz) = some ((xs[k / sz])[k % sz]'(by omega)) := by simp [get2, hi, hl, hj]
  have := (hf _ _ _ hg).oneCell (hone _ (List.getElem_mem hi) _ (List.getElem_mem _))
  rwa [Nat.mul_comm, Nat.div_add_mod] at this

theorem copy_sound (hR : Rel E μ s w) {T X ty : TypeId} {y : TI} (hT : elemOfT E T = some y) {d x : AV} {vd vx : Value} {ys : List (List AV)} {n : Nat} (hard : ard s x = some ys) (hstr : (∃ b, x = .str b) → y.size = 1)
    (h : acopy s d ys y.size = some (n, s')) (hm : d.may n0 W) (hd : VR μ s w d vd) (hx : VR μ s w x vx) :
    Yld E n0 W μ s w ((Builtin.copy_ #[T, X] ty #[vd, vx]).run E.P w) (.int .i64 n) s' := by
  obtain ⟨tx, e, htx, hde, hte⟩ := elemOfT_parts hT
  unfold acopy at h
  split at h
  · rename_i id off len
    split at h
    · rename_i sz es hs
      split at h
      · rename_i hc
        obtain ⟨rfl, hle, hall0⟩ := hc
        simp only [Option.some.injEq, Prod.mk.injEq] at h
        obtain ⟨rfl, rfl⟩ := h
        have hall1 : (∀ q ∈ ys, q.length = y.size) ∧ ∀ q ∈ ys.take (min ys.length len), ∀ z ∈ q, z.one = true := by
          rw [Bool.or_eq_true] at hall0
          rcases hall0 with hall0 | hall0
          · refine ⟨fun q hq => ?_, fun q hq z hz => ?_⟩
            · have := List.all_eq_true.1 hall0 q hq
              simp only [Bool.and_eq_true, beq_iff_eq] at this
              exact this.1
            · have := List.all_eq_true.1 hall0 q (List.mem_of_mem_take hq)
              simp only [Bool.and_eq_true, beq_iff_eq] at this
              exact List.all_eq_true.1 this.2 z hz
          · rw [Bool.and_eq_true] at hall0
            refine ⟨fun q hq => ?_, fun q hq z hz => ?_⟩
            · have := List.all_eq_true.1 hall0.1 q hq
              simpa using this
            · exact List.all_eq_true.1 (List.all_eq_true.1 hall0.2 q hq) z hz
        have hall := hall1.1
        have hone := hall1.2
        obtain ⟨hlen, g, hg, hf⟩ := firstCells_sound hR hard hall hx (min ys.length len) (by omega) hstr
        have htl : (ys.take (min ys.length len)).length = min ys.length len := by simp
        have hallt : ∀ q ∈ ys.take (min ys.length len), q.length = y.size := fun q hq => hall q (List.mem_of_mem_take hq)
        obtain ⟨a, cap, w', rfl, hrun, h1, h2⟩ := rowStore_sound (n0 := n0) (W := W) hR hs hm hd (xs := ys.take (min ys.length len)) (by rw [htl]; omega) hle hallt g hf
          (flat_one hf hallt fun q hq => hone q hq)
        refine ⟨_, w', μ, ?_, .int _ _, h1, h2⟩
        rw [htl] at hrun
        simp only [Builtin.copy_, List.getElem?_toArray, List.getElem?_cons_zero, List.getElem?_cons_succ, Sem.run_bind, run_underlying' htx, Result.andThen_ok, hde, hlen, run_sizeOf' hte]
        have hmn : Nat.min ys.length len = min ys.length len := rfl
        rw [hmn, hg]
        cases a with
        | none =>
          simp only [Result.ok.injEq, true_and] at hrun
          subst hrun
          simp [goInt]
        | some a =>
          simp only at hrun
          simp only [Result.andThen_ok, Sem.run_bind, hrun, goInt, Sem.run_pure]
      · cases h
    · cases h
  · cases h
end
end Go.Am
namespace Go.Am

/-- SliceData -/
def ausd (s : St) : AV → Option AV
  | .nsl => some .np
  | .ls id off len => match s.get id with
    | some (.row _ _ _) => if 0 < len then some (.ep id off 0) else none
    | _ => none
  | _ => none
/-- Whether a type is a pointer to this one. -/
def isPtrTo (E : Env) (t u : TypeId) : Bool :=
  match E.ti t with
  | some x => match x.desc with
    | .pointer e => e == u
    | _ => false
  | none => false
/-- String of bytes at a pointer -/
def aus (E : Env) (pt : TypeId) (s : St) (x : AV) (n : Int) : Option (AV × St) :=
  match x with
  | .np => if n = 0 then some (.str [], s) else none
  | .ep id i 0 => match s.get id with
    | some (.row sz (true, ty) es) => if (0 < n ∧ n ≤ 9223372036854775807) ∧ (i + n.toNat ≤ es.length ∧ sz = 1) ∧ isPtrTo E pt ty = true then
      match E.ti ty, ((es.drop i).take n.toNat).mapM byteOf with
      | some y, some bs => if y.size = 1 then some (.str bs, s.put id (.row sz (false, ty) es)) else none
      | _, _ => none
      else none
    | _ => none
  | _ => none
/-- Pointers to bare pointers and back. -/
def acvp (E : Env) (s : St) (src dst : TypeId) (x : AV) : Option AV :=
  match E.ti src, E.ti dst, x with
  | some a, some b, .ptr id off => match a.desc, b.desc, s.get id with
    | .pointer t, .unsafePointer, some (.var _ cs) => match E.ti t with
      | some y => if y.size ≠ 0 ∧ off < cs.length then some (.ptr id off) else none
      | none => none
    | .unsafePointer, .pointer u, some (.var ty cs) => match E.ti u with
      | some y => if (ty = u ∧ off = 0) ∧ (cs.length = y.size ∧ y.size ≠ 0) then some (.ptr id off) else none
      | none => none
    | _, _, _ => none
  | _, _, _ => none

section
variable {E : Env} {n0 : Nat} {W : Nat → Prop} {μ μ' : Mu} {s s' : St} {w w' : World}

theorem ausd_sound (hR : Rel E μ s w) {x r : AV} {v : Value} (ts : Array TypeId) (ty : TypeId) (h : ausd s x = some r) (hv : VR μ s w x v) : Yld E n0 W μ s w ((Builtin.unsafeSliceData_ ts ty #[v]).run E.P w) r s := by
  cases hv with
  | nsl =>
    obtain rfl := Option.some.inj h
    rw [Lib.run_unsafeSliceData_nil]
    exact Yld.pure hR .np
  | ls id off len v h1 hn hp =>
    simp only [ausd] at h
    split at h
    · rename_i sz wr es hs
      split at h
      · rename_i hlen
        obtain rfl := Option.some.inj h
        rcases hp _ _ _ hs with ⟨h0, _⟩ | ⟨p, cap, hq, rfl, hlc, hcr⟩
        · omega
        · rw [Lib.run_unsafeSliceData_row _ _ _ _ _ _ (by omega)]
          refine Yld.pure hR (.ep _ _ _ _ rfl hn fun sz' wr' es' hs' => ⟨p, hq, ?_⟩)
          rw [hs] at hs'
          simp only [Option.some.injEq, AObj.row.injEq] at hs'
          obtain ⟨rfl, _, _⟩ := hs'
          simp
      · cases h
    · cases h
  | _ => simp [ausd] at h

theorem liesAt_off {P : Program} {e : TypeId} (hc : P.cellsOf e = 1) (count off n : Nat) (hn : off + n ≤ count) : liesAt P P.depth e count off e n = true := by
  have hd : P.depth = (2 * (P.types.size + Made.depth) + 1) + 1 := rfl
  rw [hd]
  simp only [liesAt, Bool.or_eq_true]
  left
  rw [hd]
  simp [rowAt, hc, hn, sameLayout]
  exact .inl (Nat.mod_one off)
theorem liesAt_one {P : Program} {e : TypeId} (hc : P.cellsOf e ≠ 0) : liesAt P P.depth e 1 0 e 1 = true := by
  have hd : P.depth = (2 * (P.types.size + Made.depth) + 1) + 1 := rfl
  rw [hd]
  simp only [liesAt, Bool.or_eq_true]
  left
  rw [hd]
  simp [rowAt, hc, sameLayout]

theorem run_loadBytes' {P : Program} (w : World) : ∀ (l : List Int) (a : Addr) (acc : ByteArray), (∀ j x, l[j]? = some x → w.cell? (a.add j) = some (.int .u8 x)) →
    (loadBytes a acc l.length).run P w = .ok ⟨acc.data ++ (l.map fun n => UInt8.ofNat n.toNat).toArray⟩ w
  | [], a, acc, _ => by simp [loadBytes]
  | x :: l, a, acc, h => by
    have h0 : w.cell? a = some (.int .u8 x) := by
      have := h 0 x rfl
      simpa [Addr.add] using this
    have ih := run_loadBytes' (P := P) w l (a.add 1) (acc.push (UInt8.ofNat x.toNat)) (fun j y hy => by
      have := h (j + 1) y (by simpa using hy)
      rw [Addr.add_add, Nat.add_comm 1 j]; exact this)
    simp only [List.length_cons, loadBytes, Sem.run_bind, run_load, h0, Result.andThen]
    have hx : x.toNat.toUInt8 = UInt8.ofNat x.toNat := rfl
    rw [hx, ih]
    congr 1
    apply ByteArray.ext
    simp [ByteArray.push]

theorem cellsOf_ti {t : TypeId} {x : TI} (h : E.ti t = some x) : E.P.cellsOf t = x.size := by
  obtain ⟨⟨i, hi, h1, _⟩, _⟩ := ti_parts h
  simp [Program.cellsOf, hi, h1]

theorem freeze_eq {a : Addr} {n : Nat} {vs : Array Value} {t : TypeId} (hn : n ≠ 0) (h : w.heap[a.block]? = some (.cells vs t (0, 0))) : w.freeze a n = setBlock w a.block (.cells vs t (a.off, a.off + n)) := by
  unfold World.freeze setBlock
  rw [if_neg hn]
  congr 1
  apply Array.ext_getElem?
  intro i
  rw [Array.getElem?_modify, Array.getElem?_setIfInBounds]
  by_cases e : a.block = i
  · subst e
    simp only [if_true, h, Option.map_some]
    have hlt : a.block < w.heap.size := (Array.getElem?_eq_some_iff.1 h).1
    simp [hlt]
  · simp [e]

theorem aus_sound (hR : Rel E μ s w) {pt it ty : TypeId} {x r : AV} {k : IntKind} {n : Int} {v : Value} (h : aus E pt s x n = some (r, s')) (hm : x.may n0 W) (hv : VR μ s w x v) :
    Yld E n0 W μ s w ((Builtin.unsafeString_ #[pt, it] ty #[v, .int k n]).run E.P w) r s' := by
  have hmax : IntKind.i64.max = 9223372036854775807 := rfl
  cases hv with
  | np =>
    simp only [aus] at h
    split at h
    · rename_i hn
      subst hn
      simp only [Option.some.injEq, Prod.mk.injEq] at h
      obtain ⟨rfl, rfl⟩ := h
      have : (Builtin.unsafeString_ #[pt, it] ty #[.pointer none, .int k 0]).run E.P w = .ok (.string .empty) w := by
        obtain ⟨m1, m2, m3, hdef⟩ : ∃ m1 m2 m3, Builtin.unsafeString_ #[pt, it] ty #[.pointer none, .int k 0] =
            (do
              let n ← asInt (.int k 0)
              if n < 0 then runtimePanic m1
              if n > IntKind.i64.max then unsupported m2
              if n = 0 then pure (.string .empty)
              else runtimePanic m3) := ⟨_, _, _, rfl⟩
        rw [hdef]
        simp [asInt, asIntOf, hmax]
      rw [this]
      exact Yld.pure hR (.str .empty)
    · cases h
  | ep id i j v h1 hn hp =>
    cases j with
    | succ j => simp [aus] at h
    | zero =>
    simp only [aus] at h
    split at h
    · rename_i sz tt es hs
      split at h
      · rename_i hc
        obtain ⟨⟨hn0, hn63⟩, ⟨hle, rfl⟩, hpt⟩ := hc
        split at h
        · rename_i y bs hy hbs
          split at h
          · rename_i hsz
            simp only [Option.some.injEq, Prod.mk.injEq] at h
            obtain ⟨rfl, rfl⟩ := h
            obtain ⟨p, hq, rfl⟩ := hp _ _ _ hs
            obtain ⟨_, o, ho, hr⟩ := hR.obj id p hq
            obtain rfl : o = .row 1 (true, tt) es := Option.some.inj (ho.symm.trans hs)
            obtain ⟨hsp, us, t, lo, hi, hh, ⟨hfr, rfl⟩, hfr2, hroom, hroom2, hall2, hx⟩ := hr
            obtain ⟨rfl, rfl⟩ := hfr rfl
            simp only [Nat.mul_one, Nat.add_zero] at *
            have hidm : May n0 W id := hm
            unfold isPtrTo at hpt
            split at hpt
            · rename_i xp hxp
              split at hpt
              · rename_i e he
                obtain rfl : e = t := by simpa using hpt
                obtain ⟨ns, hns, rfl⟩ := mapM_byteOf hbs
                have hnl : ns.length = n.toNat := by
                  have := congrArg List.length hns
                  simp at this
                  omega
                have e1 : (p.1.add i).block = p.1.block := Addr.add_block _ _
                have e2 : (p.1.add i).spot = none := by unfold Addr.add; split <;> simp [hsp]
                have e3 : (p.1.add i).off = p.1.off + i := by unfold Addr.add; split <;> simp_all
                have hcell : ∀ j x, ns[j]? = some x → w.cell? ((p.1.add i).add j) = some (.int .u8 x) := fun j x hjx => by
                  have hg : ((es.drop i).take n.toNat)[j]? = some [AV.int .u8 x] := by rw [hns]; simp [hjx]
                  rw [List.getElem?_take] at hg
                  split at hg
                  · rw [List.getElem?_drop] at hg
                    obtain ⟨u, hu, hvu⟩ := hx (i + j) 0 (.int .u8 x) (by simp [get2, hg])
                    cases hvu
                    rw [Addr.add_add, cell_of_heap hh hsp]
                    simpa using hu
                  · cases hg
                have hlb := run_loadBytes' (P := E.P) w ns (p.1.add i) .empty hcell
                have hco : E.P.cellsOf e = 1 := by rw [cellsOf_ti hy, hsz]
                have hsh : w.shape? (p.1.add i).block = some (e, us.size) := by simp [World.shape?, e1, hh]
                have hlies := liesAt_off (P := E.P) hco (us.size / E.P.cellsOf e) (p.1.off + i) ns.length (by rw [hco]; simp; omega)
                obtain ⟨_, hup, _⟩ := ti_parts hxp
                rw [he] at hup
                have hrun : (Builtin.unsafeString_ #[pt, it] ty #[.pointer (some (p.1.add i)), .int k n]).run E.P w = .ok (.string ⟨(ns.map fun n => UInt8.ofNat n.toNat).toArray⟩) (w.freeze (p.1.add i) ns.length) := by
                  obtain ⟨m1, m2, m3, hdef⟩ : ∃ m1 m2 m3, Builtin.unsafeString_ #[pt, it] ty #[.pointer (some (p.1.add i)), .int k n] =
                      (do
                        let n ← asInt (.int k n)
                        if n < 0 then runtimePanic m1
                        if n > IntKind.i64.max then unsupported m2
                        if n = 0 then pure (.string .empty)
                        else if ← variablesAt (p.1.add i) (← elemOf pt) n.toNat then do
                          let s ← loadBytes (p.1.add i) .empty n.toNat
                          freeze (p.1.add i) n.toNat
                          pure (.string s)
                        else unsupported m3) := ⟨_, _, _, rfl⟩
                  rw [hdef]
                  have g1 : ¬ n < 0 := by omega
                  have g2 : ¬ n > 9223372036854775807 := by omega
                  have g3 : ¬ n = 0 := by omega
                  simp [asInt, asIntOf, hmax, g1, g2, g3, variablesAt, hsh, elemOf, run_underlying hup, e3, ← hnl, hlies, hlb]
                rw [hrun, freeze_eq (by omega) (by rw [e1]; exact hh), e1, e3]
                refine ⟨_, _, μ, rfl, ?_, Rel.put hR hq hs (.row 1 (false, e) es) rfl _ fun s1 w1 F hw => ?_, Fr.put hR hq hidm hs (.row 1 (false, e) es) rfl _⟩
                · exact .str ⟨(ns.map fun n => UInt8.ofNat n.toNat).toArray⟩
                · refine ⟨hsp, us, e, _, _, hw, ⟨fun h => by simp at h, rfl⟩, ?_, hroom, by simpa using hroom2, hall2, fun a b x hx' => ?_⟩
                  · left
                    simp only [Nat.mul_one]
                    omega
                  · obtain ⟨u, hu, hvu⟩ := hx a b x hx'
                    exact ⟨u, by simpa using hu, hvu.mono F⟩
              · cases hpt
            · cases hpt
          · cases h
        · cases h
      · cases h
    · cases h
  | _ => simp [aus] at h

theorem acvp_sound (hR : Rel E μ s w) {src dst : TypeId} {x r : AV} {v : Value} (h : acvp E s src dst x = some r) (hv : VR μ s w x v) : Yld E n0 W μ s w ((convert src dst v).run E.P w) r s := by
  unfold acvp at h
  split at h
  · rename_i a b id off ha hb
    obtain ⟨_, hua, _⟩ := ti_parts ha
    obtain ⟨_, hub, _⟩ := ti_parts hb
    cases hv with
    | ptr _ _ _ h1 hn hp =>
    split at h
    · rename_i t tt cs hda hdb hs
      rw [hda] at hua
      rw [hdb] at hub
      split at h
      · rename_i y hy
        split at h
        · rename_i hc
          obtain rfl := Option.some.inj h
          obtain ⟨⟨i, hi, his, _⟩, _⟩ := ti_parts hy
          obtain ⟨p, hq, rfl⟩ := hp _ hs
          obtain ⟨_, o, ho, hr⟩ := hR.obj id p hq
          obtain rfl : o = .var tt cs := Option.some.inj (ho.symm.trans hs)
          obtain ⟨h0, hsp, us, t', hh, hus, rfl⟩ := hr
          have e1 : (p.1.add off).block = p.1.block := Addr.add_block _ _
          have e3 : (p.1.add off).off = off := by unfold Addr.add; split <;> simp_all
          rw [Lib.run_to_unsafe w (p.1.add off) hua hub hi (by rw [his]; exact hc.1) (e := t') (cells := us.size) (by simp [World.shape?, e1, hh]) (by rw [e3, ← hus.1]; exact hc.2)]
          exact Yld.pure hR (.ptr _ _ _ h1 hn hp)
        · cases h
      · cases h
    · rename_i u tt cs hda hdb hs
      rw [hda] at hua
      rw [hdb] at hub
      split at h
      · rename_i y hy
        split at h
        · rename_i hc
          obtain ⟨⟨rfl, rfl⟩, hcl, hy0⟩ := hc
          obtain rfl := Option.some.inj h
          obtain ⟨⟨i, hi, his, _⟩, _⟩ := ti_parts hy
          obtain ⟨p, hq, rfl⟩ := hp _ hs
          obtain ⟨_, o, ho, hr⟩ := hR.obj id p hq
          obtain rfl : o = .var tt cs := Option.some.inj (ho.symm.trans hs)
          obtain ⟨h0, hsp, us, t', hh, hus, rfl⟩ := hr
          have hco : E.P.cellsOf t' = y.size := cellsOf_ti hy
          have hsz : us.size / E.P.cellsOf t' = 1 := by
            rw [hco, ← hus.1, hcl]
            exact Nat.div_self (by omega)
          rw [Lib.run_from_unsafe w (p.1.add 0) hua hub hi (e := t') (cells := us.size) (by simp [World.shape?, Addr.add_zero, hh]) (by
            rw [hsz, Addr.add_zero, h0]
            exact liesAt_one (by rw [hco]; exact hy0))]
          exact Yld.pure hR (.ptr _ _ _ h1 hn hp)
        · cases h
      · cases h
    · cases h
  · cases h
end
end Go.Am
namespace Go.Am
/-- clear(s) of a slice. -/
def aclear (s : St) (d : AV) (z : List AV) (sz : Nat) : Option St :=
  match d with
  | .ls id off len => match s.get id with
    | some (.row sz' (true, ty) es) => if (sz' = sz ∧ z.length = sz ∧ sz ≠ 0) ∧ off + len ≤ es.length ∧ z.all AV.one = true then
        some (s.put id (.row sz (true, ty) (splice es off (List.replicate len z)))) else none
    | _ => none
  | _ => none
section
variable {E : Env} {n0 : Nat} {W : Nat → Prop} {μ μ' : Mu} {s s' : St} {w w' : World}
theorem clear_sound (hR : Rel E μ s w) {T ty : TypeId} {y : TI} (hT : elemOfT E T = some y) {d : AV} {vd : Value}
    (h : aclear s d (y.zero.map ofConst) y.size = some s') (hm : d.may n0 W) (hd : VR μ s w d vd) :
    Yld E n0 W μ s w ((Builtin.clear_ #[T] ty #[vd]).run E.P w) (.tup []) s' := by
  obtain ⟨tx, e, htx, hde, hte⟩ := elemOfT_parts hT
  unfold aclear at h
  split at h
  · rename_i id off len
    split at h
    · rename_i sz ty0 es hs
      split at h
      · rename_i hc
        obtain ⟨⟨rfl, hzl, hz0⟩, hle, hone⟩ := hc
        obtain rfl := Option.some.inj h
        obtain ⟨z, hzr, hzz⟩ := run_zero' hte w
        have hzs : z.cells.size = y.size := by rw [← hzl, ← hzz]; simp
        have hall : ∀ x ∈ List.replicate len (y.zero.map ofConst), x.length = y.size := fun x hx => by rw [List.eq_of_mem_replicate hx]; exact hzl
        have hf : Flat μ s w y.size (List.replicate len (y.zero.map ofConst)) (fun k => z.cells[k % z.cells.size]!) := fun i j x hx => by
          obtain ⟨hi, hxx⟩ := get2_replicate hx
          rw [List.getElem?_map] at hxx
          cases hg : y.zero[j]? with
          | none => rw [hg] at hxx; cases hxx
          | some v =>
            rw [hg] at hxx
            obtain rfl := Option.some.inj hxx
            have hj : j < y.size := by rw [← hzl]; simpa using (List.getElem?_eq_some_iff.1 hg).1
            have : (i * y.size + j) % z.cells.size = j := by rw [hzs, Nat.mul_comm, Nat.mul_add_mod, Nat.mod_eq_of_lt hj]
            show VR μ s w (ofConst v) (z.cells[(i * y.size + j) % z.cells.size]!)
            rw [this]
            have hv : z.cells[j]? = some v := by rw [← hg, ← hzz]; simp
            rw [getElem!_def, hv]
            exact VR.const v
        obtain ⟨a, cap, w', rfl, hrun, h1, h2⟩ := rowStore_sound (n0 := n0) (W := W) hR hs hm hd (xs := List.replicate len (y.zero.map ofConst)) (by simp) (by simpa using hle) hall _ hf
          (flat_one hf hall fun q hq x hx => by rw [List.eq_of_mem_replicate hq] at hx; exact List.all_eq_true.1 hone x hx)
        refine ⟨.tuple #[], w', μ, ?_, .tup [] #[] rfl (fun i x v hx => by simp at hx), h1, h2⟩
        have hzc : (Builtin.zeroCells z.cells len).toList = (List.range ((List.replicate len (y.zero.map ofConst)).length * y.size)).map (fun k => z.cells[k % z.cells.size]!) := by
          unfold Builtin.zeroCells
          rw [hzs]
          simp [Array.toList_map, Array.toList_range]
        rw [← hzc] at hrun
        cases len with
        | zero =>
          have hw : w' = w := by
            have : (Builtin.zeroCells z.cells 0).toList = [] := by simp [Builtin.zeroCells]
            rw [this] at hrun
            cases a with
            | none => simpa using hrun.symm
            | some a => simpa [storeCells] using hrun.symm
          subst hw
          cases a <;> simp [Builtin.clear_, run_underlying' htx]
        | succ n =>
          cases a with
          | none =>
            simp only [Result.ok.injEq, true_and] at hrun
            subst hrun
            simp [Builtin.clear_, run_underlying' htx]
          | some a =>
            simp only at hrun
            simp [Builtin.clear_, run_underlying' htx, hde, hzr, hrun]
      · cases h
    · cases h
  · cases h
end
end Go.Am
namespace Go.Am
/-- A string gone through, rune by rune. -/
def adec (b : List UInt8) (pos : Nat) : Nat × Nat := Utf8.decode ⟨b.toArray⟩ pos
def isStrDesc : TypeDesc → Bool
  | .string => true
  | _ => false
def arange (E : Env) (s : St) (t : TypeId) (x : AV) : Option (AV × St) :=
  match E.ti t, x with
  | some tx, .str b => if isStrDesc tx.desc = true then some (.it s.nx, s.push (.siter b 0)) else none
  | _, _ => none
def anext (s : St) (x : AV) : Option (AV × St) :=
  match x with
  | .it id => match s.get id with
    | some (.siter b pos) => if pos < b.length then
        some (.tup [.bool true, .int .i64 (pos : Int), .int .i32 ((adec b pos).1 : Int)], s.put id (.siter b (pos + (adec b pos).2)))
      else some (.tup [.bool false], s)
    | _ => none
  | _ => none
section
variable {E : Env} {n0 : Nat} {W : Nat → Prop} {μ μ' : Mu} {s s' : St} {w w' : World}
theorem range_sound (hR : Rel E μ s w) {t : TypeId} {x r : AV} {v : Value} (h : arange E s t x = some (r, s')) (hv : VR μ s w x v) :
    Yld E n0 W μ s w ((Instr.range t v).run E.P w) r s' := by
  unfold arange at h
  split at h
  · rename_i tx b htx
    split at h
    · rename_i hd
      simp only [Option.some.injEq, Prod.mk.injEq] at h
      obtain ⟨rfl, rfl⟩ := h
      cases hv with
      | str b =>
      have hd' : tx.desc = .string := by
        unfold isStrDesc at hd
        split at hd
        · assumption
        · cases hd
      refine ⟨.pointer (some ⟨w.heap.size, 0, none⟩), w.alloc (.stringIter b 0), μ.add s.nx (⟨w.heap.size, 0, none⟩, 0), ?_, ?_, Rel.alloc hR _ _ _ fun μ' s' w' F hh => ⟨rfl, rfl, b, rfl, hh⟩, Fr.alloc hR _ _ _⟩
      · simp [Instr.range, run_underlying' htx, hd']
      · refine .it _ _ rfl (by simp) fun o ho => ⟨(⟨w.heap.size, 0, none⟩, 0), by simp [Mu.add], rfl⟩
    · cases h
  · cases h
theorem next_sound (hR : Rel E μ s w) {ty : TypeId} {x r : AV} {v : Value} (h : anext s x = some (r, s')) (hm : x.may n0 W) (hv : VR μ s w x v) :
    Yld E n0 W μ s w ((Instr.next v true ty).run E.P w) r s' := by
  unfold anext at h
  split at h
  · rename_i id
    split at h
    · rename_i b pos hs
      cases hv with
      | it _ _ _ hn hp =>
      obtain ⟨p, hq, rfl⟩ := hp _ hs
      obtain ⟨_, o, ho, hr⟩ := hR.obj id p hq
      obtain rfl : o = .siter b pos := Option.some.inj (ho.symm.trans hs)
      obtain ⟨ho0, hsp, bb, rfl, hh⟩ := hr
      have hget : (getObj p.1.block).run E.P w = .ok (.stringIter bb pos) w := by simp [getObj, Sem.run, hh]
      have hset : ∀ o, (setObj p.1.block o).run E.P w = .ok () (setBlock w p.1.block o) := fun o => by simp [setObj, Sem.run, hh, setBlock]
      split at h
      · rename_i hlt
        simp only [Option.some.injEq, Prod.mk.injEq] at h
        obtain ⟨rfl, rfl⟩ := h
        have hlt2 : pos < bb.size := by rw [← ByteArray.size_data, ← Array.length_toList]; exact hlt
        have hdec : Utf8.decode bb pos = adec bb.data.toList pos := by unfold adec; rfl
        refine ⟨.tuple #[.bool true, .int .i64 (pos : Int), .int .i32 ((adec bb.data.toList pos).1 : Int)], setBlock w p.1.block (.stringIter bb (pos + (adec bb.data.toList pos).2)), μ, ?_, ?_, ?_, ?_⟩
        · simp only [Instr.next, Sem.run_bind, hget, Result.andThen_ok, hlt2, if_true, hdec, hset]
          rfl
        · refine .tup _ _ rfl fun i x v hx hv => ?_
          match i, hx, hv with
          | 0, hx, hv => simp at hx hv; subst hx; subst hv; exact .bool _
          | 1, hx, hv => simp at hx hv; subst hx; subst hv; exact .int _ _
          | 2, hx, hv => simp at hx hv; subst hx; subst hv; exact .int _ _
        · exact Rel.put hR hq hs (.siter bb.data.toList (pos + (adec bb.data.toList pos).2)) (by rfl) _ fun s' w' F hh => ⟨ho0, hsp, bb, rfl, hh⟩
        · exact Fr.put hR hq hm hs (.siter bb.data.toList (pos + (adec bb.data.toList pos).2)) (by rfl) _
      · rename_i hlt
        simp only [Option.some.injEq, Prod.mk.injEq] at h
        obtain ⟨rfl, rfl⟩ := h
        have hlt2 : ¬ pos < bb.size := by rw [← ByteArray.size_data, ← Array.length_toList]; exact hlt
        refine ⟨.tuple #[.bool false], w, μ, ?_, ?_, hR, hR.refl⟩
        · simp only [Instr.next, Sem.run_bind, hget, Result.andThen_ok, hlt2, if_false, Sem.run_pure]
        · refine .tup _ _ rfl fun i x v hx hv => ?_
          match i, hx, hv with
          | 0, hx, hv => simp at hx hv; subst hx; subst hv; exact .bool _
    · cases h
  · cases h
end
end Go.Am
namespace Go.Am
/-! Maps: their keys are of plain types. -/
/-- A key of the kind that is asked. -/
def akok (agg : Bool) (ks : List CK) (a : AV) : Bool := decide (a.cells.map AV.ck = ks.map some) && (match a with | .agg _ => agg | _ => !agg)
/-- Where a key lies, and what is there. -/
def afind (agg : Bool) (ks : List CK) (k : AV) : List (AV × AV) → Option (Option (Nat × AV))
  | [] => some none
  | e :: es => if akok agg ks e.1 = true then match avseq k.cells e.1.cells with
      | some true => some (some (0, e.2))
      | some false => match afind agg ks k es with
        | some (some (i, v)) => some (some (i + 1, v))
        | some none => some none
        | none => none
      | none => none
    else none
/-- A type's zero. -/
def mz : Value → AV
  | .agg vs => .agg (vs.toList.map ofConst)
  | v => ofConst v
def mzOf (P : Program) (t : TypeId) : Option AV := (P.info? t).bind fun i => i.zero.map mz
/-- Of a map's type: its key's type, whether that has cells, of which kinds they are; what is told of no key. -/
structure MI where
  kt : TypeId
  ka : Bool
  ks : List CK
  z : AV
def miOf (E : Env) (t : TypeId) : Option MI :=
  match E.ti t with
  | some x => match x.desc with
    | .map k e => match E.ti k, kindsT E 9 k, mzOf E.P e with
      | some xk, some ks, some z => some ⟨k, xk.agg, ks, z⟩
      | _, _, _ => none
    | _ => none
  | none => none
def amake0 (s : St) : AV × St := (.map s.nx, s.push (.map []))
def alookup (E : Env) (s : St) (t : TypeId) (x k : AV) (ok : Bool) : Option AV :=
  match miOf E t with
  | some m => if akok m.ka m.ks k = true then
      match (match x with
        | .nmap => some none
        | .map id => match s.get id with
          | some (.map es) => afind m.ka m.ks k es
          | _ => none
        | _ => none : Option (Option (Nat × AV))) with
      | some none => some (if ok then .tup [m.z, .bool false] else m.z)
      | some (some (_, v)) => some (if ok then .tup [v, .bool true] else v)
      | none => none
    else none
  | none => none
def amapup (E : Env) (s : St) (t : TypeId) (x k v : AV) : Option St :=
  match miOf E t, x with
  | some m, .map id => if akok m.ka m.ks k = true then
      match s.get id with
      | some (.map es) => match afind m.ka m.ks k es with
        | some none => some (s.put id (.map (es ++ [(k, v)])))
        | some (some (i, _)) => some (s.put id (.map (es.set i (k, v))))
        | none => none
      | _ => none
    else none
  | _, _ => none

section
variable {E : Env} {n0 : Nat} {W : Nat → Prop} {μ μ' : Mu} {s s' : St} {w w' : World}

theorem mz_vr (v : Value) : VR μ s w (mz v) v := by
  unfold mz
  split
  · rename_i vs
    have := VRs.ofConsts (μ := μ) (s := s) (w := w) vs.toList vs rfl
    exact .agg _ _ this.1 this.2
  · exact VR.const _
theorem mi_parts {t : TypeId} {m : MI} (h : miOf E t = some m) : ∃ x e xk z, E.ti t = some x ∧ x.desc = .map m.kt e ∧ E.ti m.kt = some xk ∧ xk.agg = m.ka ∧ kindsT E 9 m.kt = some m.ks ∧
    (∀ w, (zeroValue e).run E.P w = .ok z w) ∧ ∀ μ s w, VR μ s w m.z z := by
  unfold miOf at h
  split at h
  · rename_i x hx
    split at h
    · rename_i k e hd
      split at h
      · rename_i xk ks z h1 h2 h3
        obtain rfl := Option.some.inj h
        unfold mzOf at h3
        cases hi : E.P.info? e with
        | none => simp [hi] at h3
        | some i =>
          simp only [hi, Option.bind_some] at h3
          cases hz : i.zero with
          | none => simp [hz] at h3
          | some z0 =>
            simp only [hz, Option.map_some, Option.some.injEq] at h3
            subst h3
            exact ⟨x, e, xk, z0, hx, hd, h1, rfl, h2, fun w => by simp [zeroValue, typeInfo, hi, hz], fun _ _ _ => mz_vr _⟩
      · cases h
    · cases h
  · cases h

theorem akok_cases {agg : Bool} {ks : List CK} {a : AV} (h : akok agg ks a = true) : (∃ cs, a = .agg cs ∧ agg = true ∧ cs.map AV.ck = ks.map some) ∨
    (agg = false ∧ ((∃ b, a = .bool b ∧ ks = [.b]) ∨ (∃ k n, a = .int k n ∧ ks = [.i]) ∨ ∃ x, a = .str x ∧ ks = [.s])) := by
  have one : ∀ k : CK, some k :: [] = ks.map some → ks = [k] := by
    intro k hk
    match ks, hk with
    | [j], hk => simp at hk; rw [hk]
    | [], hk => simp at hk
    | _ :: _ :: _, hk => simp at hk
  have no : none :: [] = ks.map some → False := by
    intro hk
    match ks, hk with
    | [j], hk => simp at hk
    | [], hk => simp at hk
    | _ :: _ :: _, hk => simp at hk
  unfold akok at h
  simp only [Bool.and_eq_true, decide_eq_true_eq] at h
  obtain ⟨h1, h2⟩ := h
  cases a <;> simp only [AV.cells, AV.ck, List.map_cons, List.map_nil, Bool.not_eq_true'] at h1 h2 <;> first
    | exact .inl ⟨_, rfl, h2, h1⟩
    | exact .inr ⟨h2, .inl ⟨_, rfl, one _ h1⟩⟩
    | exact .inr ⟨h2, .inr (.inl ⟨_, _, rfl, one _ h1⟩)⟩
    | exact .inr ⟨h2, .inr (.inr ⟨_, rfl, one _ h1⟩)⟩
    | exact (no h1).elim
theorem ck_one {a : AV} (h : a.ck ≠ none) : a.one = true := by cases a <;> simp [AV.ck, AV.one] at h ⊢
theorem akok_fit {agg : Bool} {ks : List CK} {a : AV} (h : akok agg ks a = true) : a.fit = true := by
  rcases akok_cases h with ⟨cs, rfl, _, hc⟩ | ⟨_, ⟨b, rfl, _⟩ | ⟨k, n, rfl, _⟩ | ⟨x, rfl, _⟩⟩
  · unfold AV.fit AV.cells
    refine List.all_eq_true.2 fun c hm => ck_one ?_
    obtain ⟨i, hi, rfl⟩ := List.getElem_of_mem hm
    have := congrArg (·[i]?) hc
    simp only [List.getElem?_map, List.getElem?_eq_getElem hi, Option.map_some] at this
    intro hn
    rw [hn] at this
    cases hk : ks[i]? <;> simp [hk] at this
  all_goals rfl
/-- What a key is as a value. -/
theorem akok_val {agg : Bool} {ks : List CK} {a : AV} {v : Value} (h : akok agg ks a = true) (hv : VR μ s w a v) :
    (agg = true → ∃ c, v = .agg c ∧ c.size = ks.length) ∧ (agg = false → v.cells = #[v]) := by
  rcases akok_cases h with ⟨cs, rfl, ha, hc⟩ | ⟨ha, ⟨b, rfl, _⟩ | ⟨k, n, rfl, _⟩ | ⟨x, rfl, _⟩⟩
  · cases hv with
    | agg _ vs hl _ =>
    have := congrArg List.length hc
    simp only [List.length_map] at this
    exact ⟨fun _ => ⟨vs, rfl, by omega⟩, fun h => by simp [ha] at h⟩
  all_goals
    cases hv
    exact ⟨fun h => by simp [ha] at h, fun _ => rfl⟩
theorem akok_map {agg : Bool} {ks : List CK} {a : AV} (h : akok agg ks a = true) : a.cells.map AV.ck = ks.map some := by
  unfold akok at h
  simp only [Bool.and_eq_true, decide_eq_true_eq] at h
  exact h.1
theorem key_eq {kt : TypeId} {xk : TI} {ks : List CK} (hk : E.ti kt = some xk) (hs : kindsT E 9 kt = some ks) {a b : AV} {va vb : Value} (ha : akok xk.agg ks a = true) (hb : akok xk.agg ks b = true)
    (h1 : VR μ s w a va) (h2 : VR μ s w b vb) {r : Bool} (h : avseq a.cells b.cells = some r) : (Op.equal kt va vb).run E.P w = .ok r w := by
  obtain ⟨p1, q1⟩ := akok_val ha h1
  obtain ⟨p2, q2⟩ := akok_val hb h2
  exact equalIn_plain 9 kt xk ks 10000 va vb _ _ r hs hk (by omega) (fun h => let ⟨c, h, _⟩ := p1 h; ⟨c, h⟩) (fun h => let ⟨c, h, _⟩ := p2 h; ⟨c, h⟩) q1 q2
    (h1.cells (akok_fit ha)).1 (h2.cells (akok_fit hb)).1 (akok_map ha) (akok_map hb) h
theorem now_eq {agg : Bool} {ks : List CK} {a b : AV} {va vb : Value} (d : TypeDesc) (ha : akok agg ks a = true) (hb : akok agg ks b = true) (h1 : VR μ s w a va) (h2 : VR μ s w b vb) {r : Bool}
    (h : avseq a.cells b.cells = some r) : Instr.sameNow d va vb = none ∨ Instr.sameNow d va vb = some r := by
  rcases akok_cases ha with ⟨cs, rfl, _, _⟩ | ⟨_, ⟨p, rfl, _⟩ | ⟨k, n, rfl, _⟩ | ⟨x, rfl, _⟩⟩
  · cases h1
    left
    unfold Instr.sameNow
    cases d <;> rfl
  all_goals
    rcases akok_cases hb with ⟨cs, rfl, _, _⟩ | ⟨_, ⟨p', rfl, _⟩ | ⟨k', n', rfl, _⟩ | ⟨x', rfl, _⟩⟩ <;> cases h1 <;> cases h2
    all_goals
      simp only [AV.cells, avseq, aveq] at h
      unfold Instr.sameNow
      cases d <;> first
        | exact .inl rfl
        | (by_cases hkk : k = k'
           · subst hkk
             right
             simp at h ⊢
             exact h
           · simp [hkk] at h)
        | (simp at h ⊢; done)
        | (right; simp at h ⊢; exact h)
        | (right; simp only [Option.some.injEq, Bool.and_true] at h ⊢; rw [← h]; done)
        | skip

/-- What is found abstractly is found. -/
theorem find_run {kt : TypeId} {xk : TI} {ks : List CK} (hk : E.ti kt = some xk) (hs : kindsT E 9 kt = some ks) {k : AV} {vk : Value} (ha : akok xk.agg ks k = true) (hvk : VR μ s w k vk) :
    ∀ (es : List (AV × AV)) (ents : List MapEntry) (i0 : Nat) (r : Option (Nat × AV)), es.length = ents.length →
      (∀ (i : Nat) x e, es[i]? = some x → ents[i]? = some e → VR μ s w x.1 e.key ∧ VR μ s w x.2 e.val) → afind xk.agg ks k es = some r →
      ∃ r', (Instr.findAsking kt vk ents i0).run E.P w = .ok r' w ∧ (Instr.findNow xk.desc vk ents i0 = none ∨ Instr.findNow xk.desc vk ents i0 = some r') ∧
        (match r with
        | none => r' = none
        | some (i, x) => ∃ v y e, r' = some (i0 + i, v) ∧ VR μ s w x v ∧ es[i]? = some y ∧ ents[i]? = some e ∧ akok xk.agg ks y.1 = true ∧ avseq k.cells y.1.cells = some true)
  | [], [], i0, r, _, _, h => by
    simp only [afind, Option.some.injEq] at h
    subst h
    exact ⟨none, by simp [Instr.findAsking], .inr rfl, rfl⟩
  | e :: es, n :: ents, i0, r, hl, hv, h => by
    simp only [afind] at h
    split at h
    · rename_i hok
      obtain ⟨hv1, hv2⟩ := hv 0 e n rfl rfl
      split at h
      · rename_i hq
        obtain rfl := Option.some.inj h
        have hr := key_eq hk hs ha hok hvk hv1 hq
        refine ⟨some (i0, n.val), by simp only [Instr.findAsking, Sem.run_bind, hr, Result.andThen_ok, if_true, Sem.run_pure], ?_, n.val, e, n, by simp, hv2, rfl, rfl, hok, hq⟩
        rcases now_eq xk.desc ha hok hvk hv1 hq with h1 | h1 <;> simp [Instr.findNow, h1]
      · rename_i hq
        have hr := key_eq hk hs ha hok hvk hv1 hq
        have ih := find_run hk hs ha hvk es ents (i0 + 1)
        have hl' : es.length = ents.length := by simpa using hl
        have hv' : ∀ (i : Nat) x e, es[i]? = some x → ents[i]? = some e → VR μ s w x.1 e.key ∧ VR μ s w x.2 e.val := fun i x y hx hy => hv (i + 1) x y hx hy
        have step : ∀ r1 r', afind xk.agg ks k es = some r1 → (Instr.findAsking kt vk ents (i0 + 1)).run E.P w = .ok r' w → (Instr.findNow xk.desc vk ents (i0 + 1) = none ∨ Instr.findNow xk.desc vk ents (i0 + 1) = some r') →
            (Instr.findAsking kt vk (n :: ents) i0).run E.P w = .ok r' w ∧ (Instr.findNow xk.desc vk (n :: ents) i0 = none ∨ Instr.findNow xk.desc vk (n :: ents) i0 = some r') := by
          intro r1 r' _ h2 h3
          refine ⟨by simp only [Instr.findAsking, Sem.run_bind, hr, Result.andThen_ok, Bool.false_eq_true, if_false, h2], ?_⟩
          rcases now_eq xk.desc ha hok hvk hv1 hq with h1 | h1
          · simp [Instr.findNow, h1]
          · simpa [Instr.findNow, h1] using h3
        split at h
        · rename_i i v hf
          obtain rfl := Option.some.inj h
          obtain ⟨r', h2, h3, v', y, e', rfl, h4, h5, h6, h7, h8⟩ := ih _ hl' hv' hf
          obtain ⟨h9, h10⟩ := step _ _ hf h2 h3
          exact ⟨_, h9, h10, v', y, e', by congr 2; omega, h4, h5, h6, h7, h8⟩
        · rename_i hf
          obtain rfl := Option.some.inj h
          obtain ⟨r', h2, h3, rfl⟩ := ih _ hl' hv' hf
          obtain ⟨h9, h10⟩ := step _ _ hf h2 h3
          exact ⟨_, h9, h10, rfl⟩
        · cases h
      · cases h
    · cases h
  | [], _ :: _, _, _, hl, _, _ => by simp at hl
  | _ :: _, [], _, _, hl, _, _ => by simp at hl
theorem findKey_run {kt : TypeId} {xk : TI} {ks : List CK} (hk : E.ti kt = some xk) (hs : kindsT E 9 kt = some ks) {k : AV} {vk : Value} (ha : akok xk.agg ks k = true) (hvk : VR μ s w k vk)
    {es : List (AV × AV)} {ents : List MapEntry} {r : Option (Nat × AV)} (hl : es.length = ents.length)
    (hv : ∀ (i : Nat) x e, es[i]? = some x → ents[i]? = some e → VR μ s w x.1 e.key ∧ VR μ s w x.2 e.val) (h : afind xk.agg ks k es = some r) :
    ∃ r', (Instr.findKey kt vk ents).run E.P w = .ok r' w ∧ (r = none → r' = none) ∧
      (∀ i x, r = some (i, x) → ∃ v y e, r' = some (i, v) ∧ VR μ s w x v ∧ es[i]? = some y ∧ ents[i]? = some e ∧ akok xk.agg ks y.1 = true ∧ avseq k.cells y.1.cells = some true) := by
  obtain ⟨r', h1, h2, h3⟩ := find_run hk hs ha hvk es ents 0 r hl hv h
  simp only [Nat.zero_add] at h3
  refine ⟨r', ?_, fun h => by subst h; exact h3, fun i x h => by subst h; exact h3⟩
  simp only [Instr.findKey, Sem.run_bind, run_underlying' hk, Result.andThen_ok]
  rcases h2 with h2 | h2 <;> rw [h2]
  · exact h1
  · simp

theorem kindsFs_mem {f : TypeId → Option (List CK)} : ∀ {fs : List Field} {off : Nat} {ks : List CK}, kindsFs f fs off = some ks → ∀ x ∈ fs, ∃ k1, f x.type = some k1 ∧ x.offset + k1.length ≤ off + ks.length
  | [], _, _, _, x, hx => by simp at hx
  | y :: ys, off, ks, h, x, hx => by
    simp only [kindsFs] at h
    split at h
    · rename_i hc
      simp only [Bool.and_eq_true, beq_iff_eq] at hc
      split at h
      · rename_i k1 hk1
        split at h
        · rename_i r hr
          obtain rfl := Option.some.inj h
          rcases List.mem_cons.1 hx with rfl | hx
          · exact ⟨k1, hk1, by simp; omega⟩
          · obtain ⟨k2, h1, h2⟩ := kindsFs_mem hr x hx
            exact ⟨k2, h1, by simp at h2 ⊢; omega⟩
        · cases h
      · cases h
    · cases h
/-- A key of a plain type may be one. -/
theorem checkKey_run (b : Bool) : ∀ (d : Nat) (t : TypeId) (x : TI) (ks : List CK) (n : Nat) (v : Value), kindsT E d t = some ks → E.ti t = some x → d ≤ n →
    (x.agg = true → ∃ c, v = .agg c ∧ c.size = ks.length) → (Instr.checkKey b n t v).run E.P w = .ok () w
  | 0, t, x, ks, n, v, h, _, _, _ => by simp [kindsT] at h
  | d + 1, t, x, ks, 0, v, _, _, h, _ => by omega
  | d + 1, t, x, ks, n + 1, v, h, ht, hd, hv => by
    obtain ⟨_, hu, h3, hheld, _⟩ := ti_parts ht
    obtain ⟨hp, hksl⟩ := kindsT_some ht h
    unfold kindsD at hp
    unfold Instr.checkKey
    cases hdesc : x.desc with
    | bool => simp [run_underlying' ht, hdesc]
    | string => simp [run_underlying' ht, hdesc]
    | int k => simp [run_underlying' ht, hdesc]
    | struct fs =>
      simp only [hdesc] at hp
      rw [hdesc] at h3
      obtain ⟨c, rfl, hc⟩ := hv (by simpa [aggDesc] using h3)
      split at hp
      · cases hp
      have hm := kindsFs_mem hp
      simp only [Sem.run_bind, run_underlying' ht, hdesc, Result.andThen_ok]
      rw [← Array.forIn_toList]
      have key : ∀ l : List Field, (∀ f ∈ l, f ∈ fs.toList) → (forIn l PUnit.unit (fun (f : Field) (_ : PUnit) => do
          if f.name ≠ "_" then Instr.checkKey b n f.type (← part f.type c f.offset)
          pure (ForInStep.yield PUnit.unit)) : Sem PUnit).run E.P w = .ok PUnit.unit w := by
        intro l
        induction l with
        | nil => intro _; simp
        | cons f l ih =>
          intro hf
          obtain ⟨k1, hk1, hoff⟩ := hm f (hf f (by simp))
          cases d with
          | zero => simp [kindsT] at hk1
          | succ d =>
          have hy : ∃ y, E.ti f.type = some y := by
            cases hy : E.ti f.type with
            | none => simp [kindsT, hy] at hk1
            | some y => exact ⟨y, rfl⟩
          obtain ⟨y, hy⟩ := hy
          obtain ⟨hky, hyl⟩ := kindsT_some hy hk1
          obtain ⟨_, _, hya, _, _⟩ := ti_parts hy
          obtain ⟨p, hp1, hp2, _⟩ := run_part' hy c f.offset w (by omega) (by
            intro hag
            rw [← hyl]
            unfold kindsD at hky
            split at hky <;> first
              | (obtain rfl := Option.some.inj hky; rfl)
              | cases hky
              | (rename_i hds; rw [hds] at hya; simp [aggDesc, hag] at hya))
          have hck := checkKey_run b (d + 1) f.type y k1 n p hk1 hy (by omega) (fun hag => ⟨_, hp2 hag, by simp; omega⟩)
          have ih' := ih fun g hg => hf g (by simp [hg])
          rw [List.forIn_cons]
          by_cases hn : f.name = "_"
          · simp only [hn, ne_eq, not_true, if_false, Sem.run_bind, Sem.run_pure, Result.andThen_ok]
            simpa using ih'
          · simp only [hn, ne_eq, not_false_eq_true, if_true, Sem.run_bind, hp1, hck, Result.andThen_ok, Sem.run_pure]
            simpa using ih'
      have := key fs.toList (fun f h => h)
      simp at this ⊢
      rw [this]
      simp
    | _ => simp [hdesc] at hp

theorem map_get (hR : Rel E μ s w) {id : Nat} {es : List (AV × AV)} {v : Value} (hs : s.get id = some (.map es)) (hv : VR μ s w (.map id) v) :
    ∃ (p : Addr × Nat) (ents : Array MapEntry) (clk : Nat), μ id = some p ∧ v = .map (some p.1.block) ∧ p.1.off = 0 ∧ p.1.spot = none ∧ w.heap[p.1.block]? = some (.map ents clk) ∧ es.length = ents.toList.length ∧
      (∀ (i : Nat) x e, es[i]? = some x → ents.toList[i]? = some e → VR μ s w x.1 e.key ∧ VR μ s w x.2 e.val) := by
  cases hv with
  | map _ _ _ hn hp =>
  obtain ⟨p, hq, rfl⟩ := hp _ hs
  obtain ⟨_, o, ho, hr⟩ := hR.obj id p hq
  obtain rfl : o = .map es := Option.some.inj (ho.symm.trans hs)
  obtain ⟨h0, h1, ents, clk, h2, h3, h4⟩ := hr
  exact ⟨p, ents, clk, hq, rfl, h0, h1, h2, by simpa using h3, fun i x e hx he => h4 i x e hx (by simpa using he)⟩

theorem lookup_sound (hR : Rel E μ s w) {t : TypeId} {x k r : AV} {vx vk : Value} {ok : Bool} (h : alookup E s t x k ok = some r) (hx : VR μ s w x vx) (hk : VR μ s w k vk) :
    Yld E n0 W μ s w ((Instr.lookup t vx vk ok).run E.P w) r s := by
  unfold alookup at h
  split at h
  case h_2 => cases h
  rename_i m hm
  obtain ⟨tx, e, xk, z, ht, hd, hkt, hka, hks, hz, hzv⟩ := mi_parts hm
  split at h
  case isFalse => cases h
  rename_i hok
  rw [← hka] at hok h
  have hck : ∀ b, (Instr.checkKey b 10000 m.kt vk).run E.P w = .ok () w := fun b => checkKey_run b 9 m.kt xk m.ks 10000 vk hks hkt (by omega) (akok_val hok hk).1
  have tup : ∀ {y : AV} {v : Value} (b : Bool), VR μ s w y v → VR μ s w (if ok then .tup [y, .bool b] else y) (if ok then .tuple #[v, .bool b] else v) := by
    intro y v b hy
    split
    · refine .tup _ _ rfl fun i x v hx hv => ?_
      match i, hx, hv with
      | 0, hx, hv => simp at hx hv; subst hx; subst hv; exact hy
      | 1, hx, hv => simp at hx hv; subst hx; subst hv; exact .bool _
    · exact hy
  have fin : ∀ (es : List (AV × AV)) (ents : Array MapEntry) (q : Option (Nat × AV)), afind xk.agg m.ks k es = some q → es.length = ents.toList.length →
      (∀ (i : Nat) x e, es[i]? = some x → ents.toList[i]? = some e → VR μ s w x.1 e.key ∧ VR μ s w x.2 e.val) →
      (∀ r', (Instr.findKey m.kt vk ents.toList).run E.P w = .ok r' w → (Instr.lookup t vx vk ok).run E.P w = .ok (match r' with
        | some (_, v) => if ok then .tuple #[v, .bool true] else v
        | none => if ok then .tuple #[z, .bool false] else z) w) →
      Yld E n0 W μ s w ((Instr.lookup t vx vk ok).run E.P w) (match q with | none => if ok then .tup [m.z, .bool false] else m.z | some (_, v) => if ok then .tup [v, .bool true] else v) s := by
    intro es ents q hq hl hv hy
    obtain ⟨r', h1, h2, h3⟩ := findKey_run hkt hks hok hk hl hv hq
    cases q with
    | none =>
      obtain rfl := h2 rfl
      exact ⟨_, w, μ, hy _ h1, tup false (hzv μ s w), hR, hR.refl⟩
    | some q =>
      obtain ⟨i, x⟩ := q
      obtain ⟨v, y, e', rfl, h4, _⟩ := h3 i x rfl
      exact ⟨_, w, μ, hy _ h1, tup true h4, hR, hR.refl⟩
  cases x <;> simp only at h
  case nmap =>
    cases hx
    obtain rfl := Option.some.inj h
    refine fin [] #[] none rfl rfl (fun i x e hx => by simp at hx) fun r' hy => ?_
    simp only [Instr.lookup, Sem.run_bind, run_underlying' ht, hd, Result.andThen_ok, Sem.run_pure, hck, hy]
    cases r' <;> simp [hz]
  case map id =>
    cases hs : s.get id with
    | none => simp [hs] at h
    | some o =>
    cases o with
    | map es =>
      simp only [hs] at h
      obtain ⟨p, ents, clk, hq, rfl, _, _, hh, hl, hv⟩ := map_get hR hs hx
      have hget : (getObj p.1.block).run E.P w = .ok (.map ents clk) w := by simp [getObj, Sem.run, hh]
      cases hf : afind xk.agg m.ks k es with
      | none => simp [hf] at h
      | some q =>
        have := fin es ents q hf hl hv fun r' hy => by
          simp only [Instr.lookup, Sem.run_bind, run_underlying' ht, hd, Result.andThen_ok, Sem.run_pure, hck, hget, hy]
          cases r' <;> simp [hz]
        simp only [hf] at h
        cases q with
        | none => obtain rfl := Option.some.inj h; exact this
        | some q => obtain ⟨i, v⟩ := q; obtain rfl := Option.some.inj h; exact this
    | _ => simp [hs] at h
  all_goals cases h

theorem bytes_beq (b : ByteArray) : (b == b) = true := by
  have : b == b ↔ b.data == b.data := by rfl
  simp [this]
theorem avseq_val {a b : List AV} {va vb : Array Value} (ha : VRs μ s w a va) (hb : VRs μ s w b vb) (h : avseq a b = some true) : va = vb := by
  have key : ∀ (a b : List AV), avseq a b = some true → ∀ (i : Nat) x y u v, a[i]? = some x → b[i]? = some y → VR μ s w x u → VR μ s w y v → u = v := by
    intro a
    induction a with
    | nil => intro b h i x y u v hx; simp at hx
    | cons p ps ih =>
      intro b h i x y u v hx hy hu hv
      cases b with
      | nil => simp at hy
      | cons q qs =>
        simp only [avseq] at h
        split at h
        · rename_i b1 b2 h1 h2
          simp only [Option.some.injEq, Bool.and_eq_true] at h
          obtain ⟨rfl, rfl⟩ := h
          cases i with
          | zero =>
            simp only [List.getElem?_cons_zero, Option.some.injEq] at hx hy
            subst hx; subst hy
            unfold aveq at h1
            split at h1
            · cases hu; cases hv; simp at h1; rw [h1]
            · split at h1
              · rename_i hk
                cases hu; cases hv
                simp at h1; rw [h1, hk]
              · cases h1
            · cases hu; cases hv
              simp at h1
              rename_i b1 b2
              have : b1.data = b2.data := Array.toList_inj.1 (by simpa using h1)
              cases b1; cases b2; simp at this; rw [this]
            · cases h1
          | succ i => exact ih qs h2 i x y u v (by simpa using hx) (by simpa using hy) hu hv
        · cases h
  have hl := avseq_length h
  refine Array.ext (by rw [← ha.1, ← hb.1, hl]) fun i h1 h2 => ?_
  have i1 : i < a.length := by rw [ha.1]; exact h1
  have i2 : i < b.length := by rw [hb.1]; exact h2
  exact key a b h i _ _ _ _ (List.getElem?_eq_getElem i1) (List.getElem?_eq_getElem i2) (ha.2 i _ _ (List.getElem?_eq_getElem i1) (Array.getElem?_eq_getElem h1)) (hb.2 i _ _ (List.getElem?_eq_getElem i2) (Array.getElem?_eq_getElem h2))
/-- Keys that are alike are one value, bit by bit. -/
theorem key_same {agg : Bool} {ks : List CK} {a b : AV} {va vb : Value} (n : Nat) (ha : akok agg ks a = true) (hb : akok agg ks b = true) (h1 : VR μ s w a va) (h2 : VR μ s w b vb)
    (h : avseq a.cells b.cells = some true) : va = vb ∧ Instr.sameBits (n + 1) vb va = true := by
  have hc := avseq_val (h1.cells (akok_fit ha)).1 (h2.cells (akok_fit hb)).1 h
  rcases akok_cases ha with ⟨cs, rfl, g1, hm⟩ | ⟨g1, ⟨p, rfl, _⟩ | ⟨k, n, rfl, _⟩ | ⟨x, rfl, _⟩⟩
  · rcases akok_cases hb with ⟨ds, rfl, _, _⟩ | ⟨g2, _⟩
    · cases h1 with
      | agg _ va hl1 hv1 =>
      cases h2 with
      | agg _ vb hl2 hv2 =>
      have hc : va = vb := hc
      subst hc
      refine ⟨rfl, ?_⟩
      simp only [Instr.sameBits, beq_self_eq_true, Bool.true_and]
      refine List.all_eq_true.2 fun q hq => ?_
      obtain ⟨i, hi, rfl⟩ := List.getElem_of_mem hq
      simp only [List.length_zip, Nat.min_self, Array.length_toList] at hi
      simp only [List.getElem_zip, Array.getElem_toList]
      have hi' : i < cs.length := by omega
      have hv := hv1 i cs[i] va[i] (List.getElem?_eq_getElem hi') (Array.getElem?_eq_getElem hi)
      have hk : (cs[i]).ck ≠ none := by
        intro hn
        have := congrArg (·[i]?) hm
        simp only [List.getElem?_map, List.getElem?_eq_getElem hi', Option.map_some, hn] at this
        cases hk : ks[i]? <;> simp [hk] at this
      generalize cs[i] = x at hv hk
      generalize va[i] = u at hv
      cases x <;> simp [AV.ck] at hk <;> cases hv <;> simp [Instr.sameBits, bytes_beq]
    · rw [g1] at g2; cases g2
  all_goals
    rcases akok_cases hb with ⟨ds, rfl, g2, _⟩ | ⟨_, ⟨p', rfl, _⟩ | ⟨k', n', rfl, _⟩ | ⟨x', rfl, _⟩⟩
  all_goals first
    | (rw [g1] at g2; cases g2)
    | (cases h1; cases h2
       have := congrArg (·[0]?) hc
       simp [Value.cells] at this
       done)
    | (cases h1; cases h2
       have := congrArg (·[0]?) hc
       simp [Value.cells] at this
       first
         | (subst this; exact ⟨rfl, by simp [Instr.sameBits, bytes_beq]⟩)
         | (obtain ⟨rfl, rfl⟩ := this; exact ⟨rfl, by simp [Instr.sameBits]⟩)
         | exact ⟨rfl, by simp [Instr.sameBits, bytes_beq]⟩)

theorem mapup_sound (hR : Rel E μ s w) {t : TypeId} {x k v : AV} {vx vk vv : Value} (h : amapup E s t x k v = some s') (hm' : x.may n0 W) (hx : VR μ s w x vx) (hk : VR μ s w k vk) (hv : VR μ s w v vv) :
    ∃ w', (Instr.mapUpdate t vx vk vv).run E.P w = .ok () w' ∧ Rel E μ s' w' ∧ Fr n0 W μ s w μ s' w' := by
  unfold amapup at h
  split at h
  case h_2 => cases h
  rename_i m id hm
  obtain ⟨tx, e, xk, z, ht, hd, hkt, hka, hks, hz, hzv⟩ := mi_parts hm
  split at h
  case isFalse => cases h
  rename_i hok
  rw [← hka] at hok h
  have hck : ∀ b, (Instr.checkKey b 10000 m.kt vk).run E.P w = .ok () w := fun b => checkKey_run b 9 m.kt xk m.ks 10000 vk hks hkt (by omega) (akok_val hok hk).1
  split at h
  case h_2 => cases h
  rename_i es hs
  obtain ⟨p, ents, clk, hq, rfl, hp0, hp1, hh, hl, hve⟩ := map_get hR hs hx
  have hget : (getObj p.1.block).run E.P w = .ok (.map ents clk) w := by simp [getObj, Sem.run, hh]
  have hset : ∀ o, (setObj p.1.block o).run E.P w = .ok () (setBlock w p.1.block o) := fun o => by simp [setObj, Sem.run, hh, setBlock]
  have hl' : es.length = ents.size := by simpa using hl
  split at h
  · rename_i hf
    obtain rfl := Option.some.inj h
    obtain ⟨r', h1, h2, _⟩ := findKey_run hkt hks hok hk hl hve hf
    obtain rfl := h2 rfl
    refine ⟨setBlock w p.1.block (.map (ents.push { key := vk, val := vv, born := clk }) (clk + 1)), ?_, ?_, ?_⟩
    · simp only [Instr.mapUpdate, Sem.run_bind, run_underlying' ht, hd, Result.andThen_ok, Sem.run_pure, hck, hget, h1, hset]
    · refine Rel.put hR hq hs (.map (es ++ [(k, v)])) (by rfl) _ fun s' w' F hh' => ⟨hp0, hp1, _, _, hh', by simp [hl'], fun i x e hx he => ?_⟩
      by_cases hi : i < es.length
      · rw [List.getElem?_append_left hi] at hx
        rw [Array.getElem?_push_lt (by omega)] at he
        obtain ⟨a1, a2⟩ := hve i x e hx (by rw [Array.getElem?_toList, Array.getElem?_eq_getElem (by omega)]; exact he)
        exact ⟨a1.mono F, a2.mono F⟩
      · have hi2 : i = es.length := by
          have := (List.getElem?_eq_some_iff.1 hx).1
          simp at this; omega
        subst hi2
        rw [hl', Array.getElem?_push_size] at he
        rw [List.getElem?_append_right (Nat.le_refl _), Nat.sub_self] at hx
        simp at hx he
        subst hx; subst he
        exact ⟨hk.mono F, hv.mono F⟩
    · exact Fr.put hR hq hm' hs _ (by rfl) _
  · rename_i i y hf
    obtain rfl := Option.some.inj h
    obtain ⟨r', h1, _, h3⟩ := findKey_run hkt hks hok hk hl hve hf
    obtain ⟨u, y', e', rfl, h4, h5, h6, h7, h8⟩ := h3 i y rfl
    obtain ⟨hv1, hv2⟩ := hve i y' e' h5 h6
    obtain ⟨hkv, hbits⟩ := key_same 9999 hok h7 hk hv1 h8
    have hie : ents[i]? = some e' := by simpa using h6
    refine ⟨setBlock w p.1.block (.map (ents.modify i fun e => { e with key := vk, val := vv }) clk), ?_, ?_, ?_⟩
    · have : (Instr.keyThatStays (((ents[i]?).map (·.key)).getD vk) vk).run E.P w = .ok vk w := by
        rw [hie]
        simp [Instr.keyThatStays, hbits]
      simp only [Instr.mapUpdate, Sem.run_bind, run_underlying' ht, hd, Result.andThen_ok, Sem.run_pure, hck, hget, h1, hset, this]
    · refine Rel.put hR hq hs (.map (es.set i (k, v))) (by rfl) _ fun s' w' F hh' => ⟨hp0, hp1, _, _, hh', by simp [hl'], fun j x e hx he => ?_⟩
      rw [List.getElem?_set] at hx
      rw [Array.getElem?_modify] at he
      by_cases hij : i = j
      · subst hij
        simp only [if_true, hie, Option.map_some, Option.some.injEq] at he hx
        split at hx
        · simp at hx
          subst hx; subst he
          exact ⟨hk.mono F, hv.mono F⟩
        · cases hx
      · simp only [hij, if_false] at hx he
        obtain ⟨a1, a2⟩ := hve j x e hx (by rw [Array.getElem?_toList]; exact he)
        exact ⟨a1.mono F, a2.mono F⟩
    · exact Fr.put hR hq hm' hs _ (by rfl) _
  · cases h

theorem make0_sound (hR : Rel E μ s w) {t : TypeId} {o : Option Value} (ho : o = none ∨ ∃ x, E.ti t = some x ∧ (∃ a b, x.desc = .map a b) ∧ ∃ k n, o = some (.int k n)) :
    Yld E n0 W μ s w ((Instr.makeMap t o).run E.P w) (amake0 s).1 (amake0 s).2 := by
  refine ⟨.map (some w.heap.size), w.alloc (.map #[] 0), μ.add s.nx (⟨w.heap.size, 0, none⟩, 0), ?_, ?_, Rel.alloc hR _ _ _ fun μ' s' w' F hh => ⟨rfl, rfl, #[], 0, hh, rfl, fun i x e hx => by simp at hx⟩, Fr.alloc hR _ _ _⟩
  · rcases ho with rfl | ⟨x, hx, ⟨a, b, hd⟩, k, n, rfl⟩
    · simp [Instr.makeMap]
    · simp [Instr.makeMap, run_underlying' hx, hd, asInt, asIntOf]
  · exact .map _ _ rfl (by simp [amake0]) fun o ho => ⟨(⟨w.heap.size, 0, none⟩, 0), by simp [Mu.add], rfl⟩
end
end Go.Am
