/- Part of the proof: abstract values over the given model of Go (R13, R14). Conditions: none of its own; see the statement in the seat's Rows text. -/
import Derived.Test.YtkhfjjgcafkihaaGreatAmRg
import Derived.Test.YtkhfjjgcafkihaaGreatAmSix
set_option linter.unusedSimpArgs false
set_option linter.unusedVariables false
set_option linter.unusedSectionVars false
namespace Go.Am
open Go.Proofs
/-! ### the reference: plans -/
def St1 (s : Str) : List AV := [.str s]
def cSt : Cel Str where
  cs := St1
  un x := match x with
    | [.str s] => some s
    | _ => none
  sz := 1
  un_cs _ := rfl
  cs_un x a h := by split at h <;> cases h; rfl
  len _ := rfl
  bl a n x hx := by simp [St1] at hx; subst hx; simp
theorem unL_St (l : List Str) : unL cSt (l.map St1) = some l := unL_map cSt l
def In1 (n : Nat) : List AV := [.int .i64 n]
def cIn : Cel Nat where
  cs := In1
  un x := match x with
    | [.int .i64 (.ofNat n)] => some n
    | _ => none
  sz := 1
  un_cs _ := rfl
  cs_un x a h := by split at h <;> cases h; rfl
  len _ := rfl
  bl a n x hx := by simp [In1] at hx; subst hx; simp
def Bo1 (b : Bool) : List AV := [.bool b]
def cBo : Cel Bool where
  cs := Bo1
  un x := match x with
    | [.bool b] => some b
    | _ => none
  sz := 1
  un_cs _ := rfl
  cs_un x a h := by split at h <;> cases h; rfl
  len _ := rfl
  bl a n x hx := by simp [Bo1] at hx; subst hx; simp
theorem unL_Bo (l : List Bool) : unL cBo (l.map Bo1) = some l := unL_map cBo l
def inE (l : List Str) (s : Str) : Bool := l.any fun x => x == s
def knownE (l : List Tm) (bd : List Str) : Bool := l.all fun t => !(t.b && !inE bd t.k)
def termsE (l : Lit) : List Tm := if l.kind = 3 then [l.l, l.r] else l.atom.a
def colsE (bd : List Str) : Nat → List Tm → List Nat
  | _, [] => []
  | i, t :: ts => if !t.b || inE bd t.k then i :: colsE bd (i + 1) ts else colsE bd (i + 1) ts
def varsE : List Tm → List Str → List Str
  | [], acc => acc
  | t :: ts, acc => varsE ts (if t.b && !inE acc t.k then acc ++ [t.k] else acc)
theorem inE_drop {l : List Str} {s : Str} {i : Nat} (h : i < l.length) : inE (l.drop i) s = (l[i] == s || inE (l.drop (i + 1)) s) := by
  rw [List.drop_eq_getElem_cons h]; rfl
theorem knownE_drop {l : List Tm} {bd : List Str} {i : Nat} (h : i < l.length) : knownE (l.drop i) bd = (!(l[i].b && !inE bd l[i].k) && knownE (l.drop (i + 1)) bd) := by
  rw [List.drop_eq_getElem_cons h]; rfl
theorem colsE_drop {l : List Tm} {bd : List Str} {i : Nat} (h : i < l.length) : colsE bd i (l.drop i) = if !l[i].b || inE bd l[i].k then i :: colsE bd (i + 1) (l.drop (i + 1)) else colsE bd (i + 1) (l.drop (i + 1)) := by
  rw [List.drop_eq_getElem_cons h]; rfl
theorem varsE_drop {l : List Tm} {acc : List Str} {i : Nat} (h : i < l.length) : varsE (l.drop i) acc = varsE (l.drop (i + 1)) (if l[i].b && !inE acc l[i].k then acc ++ [l[i].k] else acc) := by
  rw [List.drop_eq_getElem_cons h]; rfl
theorem colsE_len {bd : List Str} : ∀ {l : List Tm} {i : Nat}, (colsE bd i l).length ≤ l.length
  | [], i => by simp [colsE]
  | t :: ts, i => by
    have := colsE_len (bd := bd) (l := ts) (i := i + 1)
    simp only [colsE]
    split <;> simp <;> omega
theorem varsE_len : ∀ {l : List Tm} {acc : List Str}, (varsE l acc).length ≤ acc.length + l.length
  | [], acc => by simp [varsE]
  | t :: ts, acc => by
    simp only [varsE]
    split
    · have := varsE_len (l := ts) (acc := acc ++ [t.k])
      simp at this ⊢; omega
    · have := varsE_len (l := ts) (acc := acc)
      simp; omega
theorem big16 {n : Nat} (h : n ≤ 268435460) : n * 16 ≤ 140737488355328 := Nat.le_trans (Nat.mul_le_mul_right 16 h) (by decide)
theorem big8 {n : Nat} (h : n ≤ 268435460) : n * 8 ≤ 140737488355328 := Nat.le_trans (Nat.mul_le_mul_right 8 h) (by decide)
section
variable {K : Nat} {gw : World} {s : St}
attribute [local simp] awanted xop zOf cz zrow aop ev T0 Slots.put Slots.set Slots.get awr WOk AV.may ofConst abinop aint isConst St.get_push St.get_put St.live AV.fit AV.cells AV.one fieldOf afieldAddr aload ofCells astore splice May eqres env_ti FinP FinZ FinW ares aresL ares1 Fns.addP Fns.add Fns.a0 Fns.a1 Fns.a2 Fns.a3 Fns.a4 abuiltin alenOk alen aindex elemOfT elemId abuildSlice afill chunks ard aappend isSS AV.isStr aminmax placesOf abuild afield aidx isStrD isStrDesc astrop aslice asliceOk abound arange anext aextract aunop aeq AV.ck avseq aveq aconv aconvert onB_t onB_f List.range_succ
theorem ft_RIn (l : List Str) (nm : Str) (hl : l.length < LIM) : FT (env K gw) NoW 45 [.sl (l.map St1), .str nm] s (.bool (inE l nm)) s := by
  refine FT.pure (fn := Tryz.f45) F0_ok mixed Tryz.func45 (by kernel_rfl) (by rfl) rfl rfl (by simp) rfl fun μ w => ?_
  repeat' (first
    | refine WP.t ?_ | refine WP.k ?_ | refine WP.e ?_ | refine Qn ?_ | refine Qr ?_ | refine Qe ?_ | refine Bn ?_ | refine Br ?_ | refine Be ?_ | refine Bx (by decide) ?_
    | (refine RS.nl ?_; refine hk _ _ ?_; clear hk k)
    | ((first | refine RS.st fun A B hA hB => ?_ | refine RQ.st fun A B hA hB => ?_); simp [onW_t, onW_t, onW_f, onV_s]; first | ((first | refine hA _ _ _ ?_ ?_ | refine hA _ _ _ ?_ (by first | exact .inl rfl | exact .inr (by decide)) ?_); (focus (simp [onW_t] <;> omega)); clear hA hB A B) | (refine hB ?_; clear hA hB A B) | (refine onV_if ?_ ?_; (focus (first | omega | (refine ⟨?_, ?_⟩ <;> omega))); simp only [onV_s]; (first | refine hA _ _ _ ?_ ?_ | refine hA _ _ _ ?_ (by first | exact .inl rfl | exact .inr (by decide)) ?_); (focus (simp [onW_t] <;> omega)); clear hA hB A B))
    | (refine RQ.nl ?_; refine hk _ _ ?_; clear hk k)
    | refine WP.sr fun k hk => ?_ | refine WP.r fun k hk => ?_
    | refine WP.sd _ rfl fun k hk => ?_ | refine WP.d _ rfl fun k hk => ?_
    | (refine WP.cc fun A B hA hB => ?_; simp [onW_t, onB_t, onB_f]; first | (refine hA ?_; clear hA hB A B) | (refine hB ?_; clear hA hB A B) | (refine onB_if (fun h => hA ?_) (fun h => hB ?_) <;> clear hA hB A B))
    | refine WP.q ?_ | refine WP.b ?_)
  refine WP_loop (fun n T s' => ∃ i : Nat, n + i = l.length ∧ s' = s ∧ T.get 0 = .sl (l.map St1) ∧ T.get 1 = .str nm ∧ T.get 5 = .int .i64 i ∧ inE l nm = inE (l.drop i) nm) l.length ⟨0, by simp, rfl, by simp, by simp, by simp, by simp⟩ ?_
  rintro n T s' ⟨i, hn, rfl, h0, h1, h5, hc⟩
  by_cases hi : i < l.length
  · have hlt : ((i : Int) < (l.length : Int)) := by omega
    have hw : IntKind.i64.wrap ((i : Int) + 1) = (i : Int) + 1 := wrap64 (by omega) (by simp only [LIM] at hl; omega)
    have ha : l[i]? = some l[i] := List.getElem?_eq_getElem hi
    rw [inE_drop hi] at hc
    generalize hv : l[i] = v at *
    cases hz : (v == nm) with
    | true =>
      rw [hz] at hc
      repeat' (first
        | refine WP.t ?_ | refine WP.k ?_ | refine WP.e ?_ | refine Qn ?_ | refine Qr ?_ | refine Qe ?_ | refine Bn ?_ | refine Br ?_ | refine Be ?_ | refine Bx (by decide) ?_
        | (refine RS.nl ?_; refine hk _ _ ?_; clear hk k)
        | ((first | refine RS.st fun A B hA hB => ?_ | refine RQ.st fun A B hA hB => ?_); simp [h0, h1, h5, hlt, hi, ha, hv, hz, St1, onW_t, onW_f, onV_s]; first | ((first | refine hA _ _ _ ?_ ?_ | refine hA _ _ _ ?_ (by first | exact .inl rfl | exact .inr (by decide)) ?_); (focus (simp [h0, h1, h5, hlt, hi, ha, hv, hz, St1] <;> omega)); clear hA hB A B) | (refine hB ?_; clear hA hB A B) | (refine onV_if ?_ ?_; (focus (first | omega | (refine ⟨?_, ?_⟩ <;> omega))); simp only [onV_s]; (first | refine hA _ _ _ ?_ ?_ | refine hA _ _ _ ?_ (by first | exact .inl rfl | exact .inr (by decide)) ?_); (focus (simp [h0, h1, h5, hlt, hi, ha, hv, hz, St1] <;> omega)); clear hA hB A B))
        | (refine RQ.nl ?_; refine hk _ _ ?_; clear hk k)
        | refine WP.sr fun k hk => ?_ | refine WP.r fun k hk => ?_
        | refine WP.sd _ rfl fun k hk => ?_ | refine WP.d _ rfl fun k hk => ?_
        | (refine WP.cc fun A B hA hB => ?_; simp [h0, h1, h5, hlt, hi, ha, hv, hz, St1, onB_t, onB_f]; first | (refine hA ?_; clear hA hB A B) | (refine hB ?_; clear hA hB A B) | (refine onB_if (fun h => hA ?_) (fun h => hB ?_) <;> clear hA hB A B))
        | refine WP.q ?_ | refine WP.b ?_)
      simp [hc]
    | false =>
      rw [hz] at hc
      repeat' (first
        | refine WP.t ?_ | refine WP.k ?_ | refine WP.e ?_ | refine Qn ?_ | refine Qr ?_ | refine Qe ?_ | refine Bn ?_ | refine Br ?_ | refine Be ?_ | refine Bx (by decide) ?_
        | (refine RS.nl ?_; refine hk _ _ ?_; clear hk k)
        | ((first | refine RS.st fun A B hA hB => ?_ | refine RQ.st fun A B hA hB => ?_); simp [h0, h1, h5, hlt, hi, ha, hv, hz, hw, St1, onW_t, onW_f, onV_s]; first | ((first | refine hA _ _ _ ?_ ?_ | refine hA _ _ _ ?_ (by first | exact .inl rfl | exact .inr (by decide)) ?_); (focus (simp [h0, h1, h5, hlt, hi, ha, hv, hz, hw, St1] <;> omega)); clear hA hB A B) | (refine hB ?_; clear hA hB A B) | (refine onV_if ?_ ?_; (focus (first | omega | (refine ⟨?_, ?_⟩ <;> omega))); simp only [onV_s]; (first | refine hA _ _ _ ?_ ?_ | refine hA _ _ _ ?_ (by first | exact .inl rfl | exact .inr (by decide)) ?_); (focus (simp [h0, h1, h5, hlt, hi, ha, hv, hz, hw, St1] <;> omega)); clear hA hB A B))
        | (refine RQ.nl ?_; refine hk _ _ ?_; clear hk k)
        | refine WP.sr fun k hk => ?_ | refine WP.r fun k hk => ?_
        | refine WP.sd _ rfl fun k hk => ?_ | refine WP.d _ rfl fun k hk => ?_
        | (refine WP.cc fun A B hA hB => ?_; simp [h0, h1, h5, hlt, hi, ha, hv, hz, hw, St1, onB_t, onB_f]; first | (refine hA ?_; clear hA hB A B) | (refine hB ?_; clear hA hB A B) | (refine onB_if (fun h => hA ?_) (fun h => hB ?_) <;> clear hA hB A B))
        | refine WP.q ?_ | refine WP.b ?_)
      exact ⟨n - 1, by omega, i + 1, by omega, rfl, by simp [h0], by simp [h1], by simp, hc⟩
  · have hlt : ¬ ((i : Int) < (l.length : Int)) := by omega
    have hd : inE l nm = false := by rw [hc, List.drop_eq_nil_of_le (by omega)]; rfl
    repeat' (first
      | refine WP.t ?_ | refine WP.k ?_ | refine WP.e ?_ | refine Qn ?_ | refine Qr ?_ | refine Qe ?_ | refine Bn ?_ | refine Br ?_ | refine Be ?_ | refine Bx (by decide) ?_
      | (refine RS.nl ?_; refine hk _ _ ?_; clear hk k)
      | ((first | refine RS.st fun A B hA hB => ?_ | refine RQ.st fun A B hA hB => ?_); simp [h0, h1, h5, hlt, onW_t, onW_f, onV_s]; first | ((first | refine hA _ _ _ ?_ ?_ | refine hA _ _ _ ?_ (by first | exact .inl rfl | exact .inr (by decide)) ?_); (focus (simp [h0, h1, h5, hlt] <;> omega)); clear hA hB A B) | (refine hB ?_; clear hA hB A B) | (refine onV_if ?_ ?_; (focus (first | omega | (refine ⟨?_, ?_⟩ <;> omega))); simp only [onV_s]; (first | refine hA _ _ _ ?_ ?_ | refine hA _ _ _ ?_ (by first | exact .inl rfl | exact .inr (by decide)) ?_); (focus (simp [h0, h1, h5, hlt] <;> omega)); clear hA hB A B))
      | (refine RQ.nl ?_; refine hk _ _ ?_; clear hk k)
      | refine WP.sr fun k hk => ?_ | refine WP.r fun k hk => ?_
      | refine WP.sd _ rfl fun k hk => ?_ | refine WP.d _ rfl fun k hk => ?_
      | (refine WP.cc fun A B hA hB => ?_; simp [h0, h1, h5, hlt, onB_t, onB_f]; first | (refine hA ?_; clear hA hB A B) | (refine hB ?_; clear hA hB A B) | (refine onB_if (fun h => hA ?_) (fun h => hB ?_) <;> clear hA hB A B))
      | refine WP.q ?_ | refine WP.b ?_)
    simp [hd]
noncomputable def Q20 : Fns := Q14.addV 45 fun xs => match xs with
  | [.sl d, .str nm] => match unL cSt d with
    | some l => if l.length < LIM then some (.bool (inE l nm)) else none
    | none => none
  | _ => none
theorem Q20_ok : FOk (env K gw) Q20 := Q14_ok.addV fun xs s r h => by
  split at h
  · split at h
    · rename_i hd
      split at h
      · rename_i hl
        cases h
        rw [unL_eq cSt _ _ hd]
        exact ft_RIn _ _ hl
      · cases h
    · cases h
  · cases h
theorem Q20_in (l : List Str) (nm : Str) (hl : l.length < LIM) (s2 : St) : Q20 45 [.sl (l.map St1), .str nm] s2 = some (.bool (inE l nm), s2, []) := by
  have u := unL_St l
  simp [Q20, Fns.addV, Fns.add, vw1, u, hl, isScal]
theorem Q20_inN (nm : Str) (s2 : St) : Q20 45 [.nsl, .str nm] s2 = some (.bool false, s2, []) := by
  have u : unL cSt [] = some [] := rfl
  have h0 : (0 : Nat) < LIM := by decide
  simp [Q20, Fns.addV, Fns.add, vw1, u, h0, isScal, inE]
theorem Q20_inR (l : List Str) (nm : Str) (hl : l.length < LIM) (s2 : St) (id n : Nat) (k : RK) (hr : s2.get id = some (.row 1 k (l.map St1))) (hn : n = l.length) : Q20 45 [.ls id 0 n, .str nm] s2 = some (.bool (inE l nm), s2, []) := by
  have u := unL_St l
  simp [Q20, Fns.addV, Fns.add, vw1, u, hl, isScal, hr, hn]
theorem ft_RKnown (l : List Tm) (bd : List Str) (hl : l.length < LIM) (hb : bd.length < LIM) : FT (env K gw) NoW 21 [.sl (l.map Tm.cs), .sl (bd.map St1)] s (.bool (knownE l bd)) s := by
  refine FT.pure (fn := Tryz.f21) Q20_ok mixed Tryz.func21 (by kernel_rfl) (by rfl) rfl rfl (by simp) rfl fun μ w => ?_
  repeat' (first
    | refine WP.t ?_ | refine WP.k ?_ | refine WP.e ?_ | refine Qn ?_ | refine Qr ?_ | refine Qe ?_ | refine Bn ?_ | refine Br ?_ | refine Be ?_ | refine Bx (by decide) ?_
    | (refine RS.nl ?_; refine hk _ _ ?_; clear hk k)
    | ((first | refine RS.st fun A B hA hB => ?_ | refine RQ.st fun A B hA hB => ?_); simp [onW_t, onW_t, onW_f, onV_s]; first | ((first | refine hA _ _ _ ?_ ?_ | refine hA _ _ _ ?_ (by first | exact .inl rfl | exact .inr (by decide)) ?_); (focus (simp [onW_t] <;> omega)); clear hA hB A B) | (refine hB ?_; clear hA hB A B) | (refine onV_if ?_ ?_; (focus (first | omega | (refine ⟨?_, ?_⟩ <;> omega))); simp only [onV_s]; (first | refine hA _ _ _ ?_ ?_ | refine hA _ _ _ ?_ (by first | exact .inl rfl | exact .inr (by decide)) ?_); (focus (simp [onW_t] <;> omega)); clear hA hB A B))
    | (refine RQ.nl ?_; refine hk _ _ ?_; clear hk k)
    | refine WP.sr fun k hk => ?_ | refine WP.r fun k hk => ?_
    | refine WP.sd _ rfl fun k hk => ?_ | refine WP.d _ rfl fun k hk => ?_
    | (refine WP.cc fun A B hA hB => ?_; simp [onW_t, onB_t, onB_f]; first | (refine hA ?_; clear hA hB A B) | (refine hB ?_; clear hA hB A B) | (refine onB_if (fun h => hA ?_) (fun h => hB ?_) <;> clear hA hB A B))
    | refine WP.q ?_ | refine WP.b ?_)
  refine WP_loop (fun n T s' => ∃ i : Nat, n + i = l.length ∧ s' = s ∧ T.get 0 = .sl (l.map Tm.cs) ∧ T.get 1 = .sl (bd.map St1) ∧ T.get 5 = .int .i64 i ∧ knownE l bd = knownE (l.drop i) bd) l.length ⟨0, by simp, rfl, by simp, by simp, by simp, by simp⟩ ?_
  rintro n T s' ⟨i, hn, rfl, h0, h1, h5, hc⟩
  by_cases hi : i < l.length
  · have hlt : ((i : Int) < (l.length : Int)) := by omega
    have hw : IntKind.i64.wrap ((i : Int) + 1) = (i : Int) + 1 := wrap64 (by omega) (by simp only [LIM] at hl; omega)
    have ha : l[i]? = some l[i] := List.getElem?_eq_getElem hi
    rw [knownE_drop hi] at hc
    generalize hv : l[i] = v at *
    have hq := fun s2 => Q20_in bd v.k hb s2
    cases hz : v.b with
    | true =>
      cases hin : inE bd v.k with
      | true =>
        rw [hz, hin] at hc
        rw [hin] at hq
        repeat' (first
          | refine WP.t ?_ | refine WP.k ?_ | refine WP.e ?_ | refine Qn ?_ | refine Qr ?_ | refine Qe ?_ | refine Bn ?_ | refine Br ?_ | refine Be ?_ | refine Bx (by decide) ?_
          | (refine RS.nl ?_; refine hk _ _ ?_; clear hk k)
          | ((first | refine RS.st fun A B hA hB => ?_ | refine RQ.st fun A B hA hB => ?_); simp [h0, h1, h5, hlt, hi, ha, hv, hz, hw, hq, Tm.cs, onW_t, onW_f, onV_s]; first | ((first | refine hA _ _ _ ?_ ?_ | refine hA _ _ _ ?_ (by first | exact .inl rfl | exact .inr (by decide)) ?_); (focus (simp [h0, h1, h5, hlt, hi, ha, hv, hz, hw, hq, Tm.cs] <;> omega)); clear hA hB A B) | (refine hB ?_; clear hA hB A B) | (refine onV_if ?_ ?_; (focus (first | omega | (refine ⟨?_, ?_⟩ <;> omega))); simp only [onV_s]; (first | refine hA _ _ _ ?_ ?_ | refine hA _ _ _ ?_ (by first | exact .inl rfl | exact .inr (by decide)) ?_); (focus (simp [h0, h1, h5, hlt, hi, ha, hv, hz, hw, hq, Tm.cs] <;> omega)); clear hA hB A B))
          | (refine RQ.nl ?_; refine hk _ _ ?_; clear hk k)
          | refine WP.sr fun k hk => ?_ | refine WP.r fun k hk => ?_
          | refine WP.sd _ rfl fun k hk => ?_ | refine WP.d _ rfl fun k hk => ?_
          | (refine WP.cc fun A B hA hB => ?_; simp [h0, h1, h5, hlt, hi, ha, hv, hz, hw, hq, Tm.cs, onB_t, onB_f]; first | (refine hA ?_; clear hA hB A B) | (refine hB ?_; clear hA hB A B) | (refine onB_if (fun h => hA ?_) (fun h => hB ?_) <;> clear hA hB A B))
          | refine WP.q ?_ | refine WP.b ?_)
        exact ⟨n - 1, by omega, i + 1, by omega, rfl, by simp [h0], by simp [h1], by simp, hc⟩
      | false =>
        rw [hz, hin] at hc
        rw [hin] at hq
        repeat' (first
          | refine WP.t ?_ | refine WP.k ?_ | refine WP.e ?_ | refine Qn ?_ | refine Qr ?_ | refine Qe ?_ | refine Bn ?_ | refine Br ?_ | refine Be ?_ | refine Bx (by decide) ?_
          | (refine RS.nl ?_; refine hk _ _ ?_; clear hk k)
          | ((first | refine RS.st fun A B hA hB => ?_ | refine RQ.st fun A B hA hB => ?_); simp [h0, h1, h5, hlt, hi, ha, hv, hz, hw, hq, Tm.cs, onW_t, onW_f, onV_s]; first | ((first | refine hA _ _ _ ?_ ?_ | refine hA _ _ _ ?_ (by first | exact .inl rfl | exact .inr (by decide)) ?_); (focus (simp [h0, h1, h5, hlt, hi, ha, hv, hz, hw, hq, Tm.cs] <;> omega)); clear hA hB A B) | (refine hB ?_; clear hA hB A B) | (refine onV_if ?_ ?_; (focus (first | omega | (refine ⟨?_, ?_⟩ <;> omega))); simp only [onV_s]; (first | refine hA _ _ _ ?_ ?_ | refine hA _ _ _ ?_ (by first | exact .inl rfl | exact .inr (by decide)) ?_); (focus (simp [h0, h1, h5, hlt, hi, ha, hv, hz, hw, hq, Tm.cs] <;> omega)); clear hA hB A B))
          | (refine RQ.nl ?_; refine hk _ _ ?_; clear hk k)
          | refine WP.sr fun k hk => ?_ | refine WP.r fun k hk => ?_
          | refine WP.sd _ rfl fun k hk => ?_ | refine WP.d _ rfl fun k hk => ?_
          | (refine WP.cc fun A B hA hB => ?_; simp [h0, h1, h5, hlt, hi, ha, hv, hz, hw, hq, Tm.cs, onB_t, onB_f]; first | (refine hA ?_; clear hA hB A B) | (refine hB ?_; clear hA hB A B) | (refine onB_if (fun h => hA ?_) (fun h => hB ?_) <;> clear hA hB A B))
          | refine WP.q ?_ | refine WP.b ?_)
        simp [hc]
    | false =>
      rw [hz] at hc
      repeat' (first
        | refine WP.t ?_ | refine WP.k ?_ | refine WP.e ?_ | refine Qn ?_ | refine Qr ?_ | refine Qe ?_ | refine Bn ?_ | refine Br ?_ | refine Be ?_ | refine Bx (by decide) ?_
        | (refine RS.nl ?_; refine hk _ _ ?_; clear hk k)
        | ((first | refine RS.st fun A B hA hB => ?_ | refine RQ.st fun A B hA hB => ?_); simp [h0, h1, h5, hlt, hi, ha, hv, hz, hw, Tm.cs, onW_t, onW_f, onV_s]; first | ((first | refine hA _ _ _ ?_ ?_ | refine hA _ _ _ ?_ (by first | exact .inl rfl | exact .inr (by decide)) ?_); (focus (simp [h0, h1, h5, hlt, hi, ha, hv, hz, hw, Tm.cs] <;> omega)); clear hA hB A B) | (refine hB ?_; clear hA hB A B) | (refine onV_if ?_ ?_; (focus (first | omega | (refine ⟨?_, ?_⟩ <;> omega))); simp only [onV_s]; (first | refine hA _ _ _ ?_ ?_ | refine hA _ _ _ ?_ (by first | exact .inl rfl | exact .inr (by decide)) ?_); (focus (simp [h0, h1, h5, hlt, hi, ha, hv, hz, hw, Tm.cs] <;> omega)); clear hA hB A B))
        | (refine RQ.nl ?_; refine hk _ _ ?_; clear hk k)
        | refine WP.sr fun k hk => ?_ | refine WP.r fun k hk => ?_
        | refine WP.sd _ rfl fun k hk => ?_ | refine WP.d _ rfl fun k hk => ?_
        | (refine WP.cc fun A B hA hB => ?_; simp [h0, h1, h5, hlt, hi, ha, hv, hz, hw, Tm.cs, onB_t, onB_f]; first | (refine hA ?_; clear hA hB A B) | (refine hB ?_; clear hA hB A B) | (refine onB_if (fun h => hA ?_) (fun h => hB ?_) <;> clear hA hB A B))
        | refine WP.q ?_ | refine WP.b ?_)
      exact ⟨n - 1, by omega, i + 1, by omega, rfl, by simp [h0], by simp [h1], by simp, hc⟩
  · have hlt : ¬ ((i : Int) < (l.length : Int)) := by omega
    have hd : knownE l bd = true := by rw [hc, List.drop_eq_nil_of_le (by omega)]; rfl
    repeat' (first
      | refine WP.t ?_ | refine WP.k ?_ | refine WP.e ?_ | refine Qn ?_ | refine Qr ?_ | refine Qe ?_ | refine Bn ?_ | refine Br ?_ | refine Be ?_ | refine Bx (by decide) ?_
      | (refine RS.nl ?_; refine hk _ _ ?_; clear hk k)
      | ((first | refine RS.st fun A B hA hB => ?_ | refine RQ.st fun A B hA hB => ?_); simp [h0, h1, h5, hlt, onW_t, onW_f, onV_s]; first | ((first | refine hA _ _ _ ?_ ?_ | refine hA _ _ _ ?_ (by first | exact .inl rfl | exact .inr (by decide)) ?_); (focus (simp [h0, h1, h5, hlt] <;> omega)); clear hA hB A B) | (refine hB ?_; clear hA hB A B) | (refine onV_if ?_ ?_; (focus (first | omega | (refine ⟨?_, ?_⟩ <;> omega))); simp only [onV_s]; (first | refine hA _ _ _ ?_ ?_ | refine hA _ _ _ ?_ (by first | exact .inl rfl | exact .inr (by decide)) ?_); (focus (simp [h0, h1, h5, hlt] <;> omega)); clear hA hB A B))
      | (refine RQ.nl ?_; refine hk _ _ ?_; clear hk k)
      | refine WP.sr fun k hk => ?_ | refine WP.r fun k hk => ?_
      | refine WP.sd _ rfl fun k hk => ?_ | refine WP.d _ rfl fun k hk => ?_
      | (refine WP.cc fun A B hA hB => ?_; simp [h0, h1, h5, hlt, onB_t, onB_f]; first | (refine hA ?_; clear hA hB A B) | (refine hB ?_; clear hA hB A B) | (refine onB_if (fun h => hA ?_) (fun h => hB ?_) <;> clear hA hB A B))
      | refine WP.q ?_ | refine WP.b ?_)
    simp [hd]
theorem ft_RTerms (l : Lit) : FT (env K gw) NoW 93 [.agg l.cs] s (.sl ((termsE l).map Tm.cs)) s := by
  have hlcs : l.cs = [.int .i64 l.kind, .str l.atom.p, .sl (l.atom.a.map Tm.cs), .str l.op, .bool l.l.b, .str l.l.k, .bool l.l.v.b, .str l.l.v.s, .int .i64 l.l.v.n, .bool l.r.b, .str l.r.k, .bool l.r.v.b, .str l.r.v.s, .int .i64 l.r.v.n] := rfl
  refine FT.data (fn := Tryz.f93) F0_ok mixed Tryz.func93 (by kernel_rfl) (by rfl) rfl rfl (by simp) rfl fun μ w => ?_
  by_cases h : l.kind = 3
  · have hb : (l.kind == 3) = true := by simp [h]
    have ht : termsE l = [l.l, l.r] := if_pos h
    rw [ht]
    repeat' (first
      | refine WP.t ?_ | refine WP.k ?_ | refine WP.e ?_ | refine Qn ?_ | refine Qr ?_ | refine Qe ?_ | refine Bn ?_ | refine Br ?_ | refine Be ?_ | refine Bx (by decide) ?_
      | (refine RS.nl ?_; refine hk _ _ ?_; clear hk k)
      | ((first | refine RS.st fun A B hA hB => ?_ | refine RQ.st fun A B hA hB => ?_); simp [hlcs, hb, onW_t, onW_f, onV_s]; first | ((first | refine hA _ _ _ ?_ ?_ | refine hA _ _ _ ?_ (by first | exact .inl rfl | exact .inr (by decide)) ?_); (focus (simp [hlcs, hb] <;> omega)); clear hA hB A B) | (refine hB ?_; clear hA hB A B) | (refine onV_if ?_ ?_; (focus (first | omega | (refine ⟨?_, ?_⟩ <;> omega))); simp only [onV_s]; (first | refine hA _ _ _ ?_ ?_ | refine hA _ _ _ ?_ (by first | exact .inl rfl | exact .inr (by decide)) ?_); (focus (simp [hlcs, hb] <;> omega)); clear hA hB A B))
      | (refine RQ.nl ?_; refine hk _ _ ?_; clear hk k)
      | refine WP.sr fun k hk => ?_ | refine WP.r fun k hk => ?_
      | refine WP.sd _ rfl fun k hk => ?_ | refine WP.d _ rfl fun k hk => ?_
      | (refine WP.cc fun A B hA hB => ?_; simp [hlcs, hb, onB_t, onB_f]; first | (refine hA ?_; clear hA hB A B) | (refine hB ?_; clear hA hB A B) | (refine onB_if (fun h => hA ?_) (fun h => hB ?_) <;> clear hA hB A B))
      | refine WP.q ?_ | refine WP.b ?_)
    exact ⟨.inr rfl, .ls (s.nx + 1) 0 2, by simp, frz_sl cTm (k := (true, 44)) (by simp [St.get_push, Tm.cs, cTm]) (by omega) (by simp)⟩
  · have hb : (l.kind == 3) = false := by simp [h]
    have ht : termsE l = l.atom.a := if_neg h
    rw [ht]
    repeat' (first
      | refine WP.t ?_ | refine WP.k ?_ | refine WP.e ?_ | refine Qn ?_ | refine Qr ?_ | refine Qe ?_ | refine Bn ?_ | refine Br ?_ | refine Be ?_ | refine Bx (by decide) ?_
      | (refine RS.nl ?_; refine hk _ _ ?_; clear hk k)
      | ((first | refine RS.st fun A B hA hB => ?_ | refine RQ.st fun A B hA hB => ?_); simp [hlcs, hb, onW_t, onW_f, onV_s]; first | ((first | refine hA _ _ _ ?_ ?_ | refine hA _ _ _ ?_ (by first | exact .inl rfl | exact .inr (by decide)) ?_); (focus (simp [hlcs, hb] <;> omega)); clear hA hB A B) | (refine hB ?_; clear hA hB A B) | (refine onV_if ?_ ?_; (focus (first | omega | (refine ⟨?_, ?_⟩ <;> omega))); simp only [onV_s]; (first | refine hA _ _ _ ?_ ?_ | refine hA _ _ _ ?_ (by first | exact .inl rfl | exact .inr (by decide)) ?_); (focus (simp [hlcs, hb] <;> omega)); clear hA hB A B))
      | (refine RQ.nl ?_; refine hk _ _ ?_; clear hk k)
      | refine WP.sr fun k hk => ?_ | refine WP.r fun k hk => ?_
      | refine WP.sd _ rfl fun k hk => ?_ | refine WP.d _ rfl fun k hk => ?_
      | (refine WP.cc fun A B hA hB => ?_; simp [hlcs, hb, onB_t, onB_f]; first | (refine hA ?_; clear hA hB A B) | (refine hB ?_; clear hA hB A B) | (refine onB_if (fun h => hA ?_) (fun h => hB ?_) <;> clear hA hB A B))
      | refine WP.q ?_ | refine WP.b ?_)
    exact ⟨.inr rfl, .sl (l.atom.a.map Tm.cs), by simp, .same _ (below_sl' cTm _ _)⟩
theorem ft_RCols (t : Atm) (bd : List Str) (hl : t.a.length < 268435456) (hb : bd.length < LIM) : FT (env K gw) NoW 94 [.agg t.cs, .sl (bd.map St1)] s (.sl ((colsE bd 0 t.a).map In1)) s := by
  obtain ⟨p, a⟩ := t
  simp only at hl
  refine FT.data (fn := Tryz.f94) Q20_ok mixed Tryz.func94 (by kernel_rfl) (by rfl) rfl rfl (by simp) rfl fun μ w => ?_
  repeat' (first
    | refine WP.t ?_ | refine WP.k ?_ | refine WP.e ?_ | refine Qn ?_ | refine Qr ?_ | refine Qe ?_ | refine Bn ?_ | refine Br ?_ | refine Be ?_ | refine Bx (by decide) ?_
    | (refine RS.nl ?_; refine hk _ _ ?_; clear hk k)
    | ((first | refine RS.st fun A B hA hB => ?_ | refine RQ.st fun A B hA hB => ?_); simp [Atm.cs, onW_t, onW_f, onV_s]; first | ((first | refine hA _ _ _ ?_ ?_ | refine hA _ _ _ ?_ (by first | exact .inl rfl | exact .inr (by decide)) ?_); (focus (simp [Atm.cs] <;> omega)); clear hA hB A B) | (refine hB ?_; clear hA hB A B) | (refine onV_if ?_ ?_; (focus (first | omega | (refine ⟨?_, ?_⟩ <;> omega))); simp only [onV_s]; (first | refine hA _ _ _ ?_ ?_ | refine hA _ _ _ ?_ (by first | exact .inl rfl | exact .inr (by decide)) ?_); (focus (simp [Atm.cs] <;> omega)); clear hA hB A B))
    | (refine RQ.nl ?_; refine hk _ _ ?_; clear hk k)
    | refine WP.sr fun k hk => ?_ | refine WP.r fun k hk => ?_
    | refine WP.sd _ rfl fun k hk => ?_ | refine WP.d _ rfl fun k hk => ?_
    | (refine WP.cc fun A B hA hB => ?_; simp [Atm.cs, onB_t, onB_f]; first | (refine hA ?_; clear hA hB A B) | (refine hB ?_; clear hA hB A B) | (refine onB_if (fun h => hA ?_) (fun h => hB ?_) <;> clear hA hB A B))
    | refine WP.q ?_ | refine WP.b ?_)
  refine WP_loop (fun n T s' => ∃ (i : Nat) (acc : List Nat), n + i = a.length ∧ T.get 1 = .sl (bd.map St1) ∧ T.get 2 = .ptr s.nx 0 ∧ s'.get s.nx = some (.var 37 [.str p, .sl (a.map Tm.cs)]) ∧ T.get 6 = .int .i64 i ∧ s.nx < s'.nx ∧ acc.length ≤ i ∧ colsE bd 0 a = acc ++ colsE bd i (a.drop i) ∧
    ((acc = [] ∧ T.get 5 = .nsl) ∨ (∃ q, s.nx < q ∧ q < s'.nx ∧ T.get 5 = .ls q 0 acc.length ∧ s'.get q = some (.row 1 (true, 3) (acc.map In1))))) a.length
    ⟨0, [], by simp, by simp, by simp, by simp [St.get_push], by simp, by simp, by simp, by simp, .inl ⟨rfl, by simp⟩⟩ ?_
  rintro n T s' ⟨i, acc, hn, h1, h2, hs0, h6, hnx, hal, hm, hB⟩
  have m0 : ¬ s.nx = s'.nx := by omega
  by_cases hi : i < a.length
  · have hw : IntKind.i64.wrap ((i : Int) + 1) = (i : Int) + 1 := wrap64 (by omega) (by omega)
    have hlt : ((i : Int) < (a.length : Int)) := by omega
    have ha : a[i]? = some a[i] := List.getElem?_eq_getElem hi
    rw [colsE_drop hi] at hm
    generalize hv : a[i] = v at *
    have hq := fun s2 => Q20_in bd v.k hb s2
    have hcase : ((!v.b || inE bd v.k) = false ∧ v.b = true ∧ inE bd v.k = false) ∨ ((!v.b || inE bd v.k) = true ∧ (v.b = false ∨ v.b = true ∧ inE bd v.k = true)) := by
      cases v.b <;> cases inE bd v.k <;> simp
    rcases hcase with ⟨hc, hz, hin⟩ | ⟨hc, hcc⟩
    · rw [hc] at hm
      rw [hin] at hq
      repeat' (first
        | refine WP.t ?_ | refine WP.k ?_ | refine WP.e ?_ | refine Qn ?_ | refine Qr ?_ | refine Qe ?_ | refine Bn ?_ | refine Br ?_ | refine Be ?_ | refine Bx (by decide) ?_
        | (refine RS.nl ?_; refine hk _ _ ?_; clear hk k)
        | ((first | refine RS.st fun A B hA hB => ?_ | refine RQ.st fun A B hA hB => ?_); simp [h1, h2, h6, hs0, hnx, hlt, hi, ha, hv, hz, hw, hq, Tm.cs, onW_t, onW_f, onV_s]; first | ((first | refine hA _ _ _ ?_ ?_ | refine hA _ _ _ ?_ (by first | exact .inl rfl | exact .inr (by decide)) ?_); (focus (simp [h1, h2, h6, hs0, hnx, hlt, hi, ha, hv, hz, hw, hq, Tm.cs] <;> omega)); clear hA hB A B) | (refine hB ?_; clear hA hB A B) | (refine onV_if ?_ ?_; (focus (first | omega | (refine ⟨?_, ?_⟩ <;> omega))); simp only [onV_s]; (first | refine hA _ _ _ ?_ ?_ | refine hA _ _ _ ?_ (by first | exact .inl rfl | exact .inr (by decide)) ?_); (focus (simp [h1, h2, h6, hs0, hnx, hlt, hi, ha, hv, hz, hw, hq, Tm.cs] <;> omega)); clear hA hB A B))
        | (refine RQ.nl ?_; refine hk _ _ ?_; clear hk k)
        | refine WP.sr fun k hk => ?_ | refine WP.r fun k hk => ?_
        | refine WP.sd _ rfl fun k hk => ?_ | refine WP.d _ rfl fun k hk => ?_
        | (refine WP.cc fun A B hA hB => ?_; simp [h1, h2, h6, hs0, hnx, hlt, hi, ha, hv, hz, hw, hq, Tm.cs, onB_t, onB_f]; first | (refine hA ?_; clear hA hB A B) | (refine hB ?_; clear hA hB A B) | (refine onB_if (fun h => hA ?_) (fun h => hB ?_) <;> clear hA hB A B))
        | refine WP.q ?_ | refine WP.b ?_)
      exact ⟨n - 1, by omega, i + 1, acc, by omega, by simp [h1], by simp [h2], hs0, by simp, hnx, by omega, hm, by simpa using hB⟩
    · rw [hc] at hm
      simp only [if_true] at hm
      have hm' : colsE bd 0 a = acc ++ [i] ++ colsE bd (i + 1) (a.drop (i + 1)) := by rw [hm]; simp
      rcases hB with ⟨rfl, h5⟩ | ⟨q, hq1, hq2, h5, hqr⟩
      · rcases hcc with hz | ⟨hz, hin⟩
        · skip
          repeat' (first
            | refine WP.t ?_ | refine WP.k ?_ | refine WP.e ?_ | refine Qn ?_ | refine Qr ?_ | refine Qe ?_ | refine Bn ?_ | refine Br ?_ | refine Be ?_ | refine Bx (by decide) ?_
            | (refine RS.nl ?_; refine hk _ _ ?_; clear hk k)
            | ((first | refine RS.st fun A B hA hB => ?_ | refine RQ.st fun A B hA hB => ?_); simp [h1, h2, h5, h6, hs0, hnx, m0, hlt, hi, ha, hv, hz, hw, Tm.cs, onW_t, onW_f, onV_s]; first | ((first | refine hA _ _ _ ?_ ?_ | refine hA _ _ _ ?_ (by first | exact .inl rfl | exact .inr (by decide)) ?_); (focus (simp [h1, h2, h5, h6, hs0, hnx, m0, hlt, hi, ha, hv, hz, hw, Tm.cs] <;> omega)); clear hA hB A B) | (refine hB ?_; clear hA hB A B) | (refine onV_if ?_ ?_; (focus (first | omega | (refine ⟨?_, ?_⟩ <;> omega))); simp only [onV_s]; (first | refine hA _ _ _ ?_ ?_ | refine hA _ _ _ ?_ (by first | exact .inl rfl | exact .inr (by decide)) ?_); (focus (simp [h1, h2, h5, h6, hs0, hnx, m0, hlt, hi, ha, hv, hz, hw, Tm.cs] <;> omega)); clear hA hB A B))
            | (refine RQ.nl ?_; refine hk _ _ ?_; clear hk k)
            | refine WP.sr fun k hk => ?_ | refine WP.r fun k hk => ?_
            | refine WP.sd _ rfl fun k hk => ?_ | refine WP.d _ rfl fun k hk => ?_
            | (refine WP.cc fun A B hA hB => ?_; simp [h1, h2, h5, h6, hs0, hnx, m0, hlt, hi, ha, hv, hz, hw, Tm.cs, onB_t, onB_f]; first | (refine hA ?_; clear hA hB A B) | (refine hB ?_; clear hA hB A B) | (refine onB_if (fun h => hA ?_) (fun h => hB ?_) <;> clear hA hB A B))
            | refine WP.q ?_ | refine WP.b ?_)
          exact ⟨n - 1, by omega, i + 1, [i], by omega, by simp [h1], by simp [h2], by simp [St.get_push, m0, hs0], by simp, by simp; omega, by simp, hm', .inr ⟨s'.nx, by omega, by simp, by simp, by simp [St.get_push, In1]⟩⟩
        · rw [hin] at hq
          repeat' (first
            | refine WP.t ?_ | refine WP.k ?_ | refine WP.e ?_ | refine Qn ?_ | refine Qr ?_ | refine Qe ?_ | refine Bn ?_ | refine Br ?_ | refine Be ?_ | refine Bx (by decide) ?_
            | (refine RS.nl ?_; refine hk _ _ ?_; clear hk k)
            | ((first | refine RS.st fun A B hA hB => ?_ | refine RQ.st fun A B hA hB => ?_); simp [h1, h2, h5, h6, hs0, hnx, m0, hlt, hi, ha, hv, hz, hw, hq, Tm.cs, onW_t, onW_f, onV_s]; first | ((first | refine hA _ _ _ ?_ ?_ | refine hA _ _ _ ?_ (by first | exact .inl rfl | exact .inr (by decide)) ?_); (focus (simp [h1, h2, h5, h6, hs0, hnx, m0, hlt, hi, ha, hv, hz, hw, hq, Tm.cs] <;> omega)); clear hA hB A B) | (refine hB ?_; clear hA hB A B) | (refine onV_if ?_ ?_; (focus (first | omega | (refine ⟨?_, ?_⟩ <;> omega))); simp only [onV_s]; (first | refine hA _ _ _ ?_ ?_ | refine hA _ _ _ ?_ (by first | exact .inl rfl | exact .inr (by decide)) ?_); (focus (simp [h1, h2, h5, h6, hs0, hnx, m0, hlt, hi, ha, hv, hz, hw, hq, Tm.cs] <;> omega)); clear hA hB A B))
            | (refine RQ.nl ?_; refine hk _ _ ?_; clear hk k)
            | refine WP.sr fun k hk => ?_ | refine WP.r fun k hk => ?_
            | refine WP.sd _ rfl fun k hk => ?_ | refine WP.d _ rfl fun k hk => ?_
            | (refine WP.cc fun A B hA hB => ?_; simp [h1, h2, h5, h6, hs0, hnx, m0, hlt, hi, ha, hv, hz, hw, hq, Tm.cs, onB_t, onB_f]; first | (refine hA ?_; clear hA hB A B) | (refine hB ?_; clear hA hB A B) | (refine onB_if (fun h => hA ?_) (fun h => hB ?_) <;> clear hA hB A B))
            | refine WP.q ?_ | refine WP.b ?_)
          exact ⟨n - 1, by omega, i + 1, [i], by omega, by simp [h1], by simp [h2], by simp [St.get_push, m0, hs0], by simp, by simp; omega, by simp, hm', .inr ⟨s'.nx, by omega, by simp, by simp, by simp [St.get_push, In1]⟩⟩
      · have e0 : ¬ q = s'.nx := by omega
        have e4 : ¬ s.nx = q := by omega
        have l0 : q < s'.nx + 1 := by omega
        have htl : List.take acc.length (acc.map In1) = acc.map In1 := List.take_of_length_le (by simp)
        have hby : (acc.length + 1) * 8 ≤ 140737488355328 := big8 (by omega)
        rcases hcc with hz | ⟨hz, hin⟩
        · skip
          repeat' (first
            | refine WP.t ?_ | refine WP.k ?_ | refine WP.e ?_ | refine Qn ?_ | refine Qr ?_ | refine Qe ?_ | refine Bn ?_ | refine Br ?_ | refine Be ?_ | refine Bx (by decide) ?_
            | (refine RS.nl ?_; refine hk _ _ ?_; clear hk k)
            | ((first | refine RS.st fun A B hA hB => ?_ | refine RQ.st fun A B hA hB => ?_); simp [h1, h2, h5, h6, hs0, hnx, m0, hlt, hi, ha, hv, hz, hw, Tm.cs, hqr, e0, e4, l0, htl, hby, onW_t, onW_f, onV_s]; first | ((first | refine hA _ _ _ ?_ ?_ | refine hA _ _ _ ?_ (by first | exact .inl rfl | exact .inr (by decide)) ?_); (focus (simp [h1, h2, h5, h6, hs0, hnx, m0, hlt, hi, ha, hv, hz, hw, Tm.cs, hqr, e0, e4, l0, htl, hby] <;> omega)); clear hA hB A B) | (refine hB ?_; clear hA hB A B) | (refine onV_if ?_ ?_; (focus (first | omega | (refine ⟨?_, ?_⟩ <;> omega))); simp only [onV_s]; (first | refine hA _ _ _ ?_ ?_ | refine hA _ _ _ ?_ (by first | exact .inl rfl | exact .inr (by decide)) ?_); (focus (simp [h1, h2, h5, h6, hs0, hnx, m0, hlt, hi, ha, hv, hz, hw, Tm.cs, hqr, e0, e4, l0, htl, hby] <;> omega)); clear hA hB A B))
            | (refine RQ.nl ?_; refine hk _ _ ?_; clear hk k)
            | refine WP.sr fun k hk => ?_ | refine WP.r fun k hk => ?_
            | refine WP.sd _ rfl fun k hk => ?_ | refine WP.d _ rfl fun k hk => ?_
            | (refine WP.cc fun A B hA hB => ?_; simp [h1, h2, h5, h6, hs0, hnx, m0, hlt, hi, ha, hv, hz, hw, Tm.cs, hqr, e0, e4, l0, htl, hby, onB_t, onB_f]; first | (refine hA ?_; clear hA hB A B) | (refine hB ?_; clear hA hB A B) | (refine onB_if (fun h => hA ?_) (fun h => hB ?_) <;> clear hA hB A B))
            | refine WP.q ?_ | refine WP.b ?_)
          exact ⟨n - 1, by omega, i + 1, acc ++ [i], by omega, by simp [h1], by simp [h2], by simp [St.get_push, St.get_drop, m0, e4, hs0], by simp, by simp; omega, by simp; omega, hm', .inr ⟨s'.nx, by omega, by simp, by simp, by simp [St.get_push, In1]⟩⟩
        · rw [hin] at hq
          repeat' (first
            | refine WP.t ?_ | refine WP.k ?_ | refine WP.e ?_ | refine Qn ?_ | refine Qr ?_ | refine Qe ?_ | refine Bn ?_ | refine Br ?_ | refine Be ?_ | refine Bx (by decide) ?_
            | (refine RS.nl ?_; refine hk _ _ ?_; clear hk k)
            | ((first | refine RS.st fun A B hA hB => ?_ | refine RQ.st fun A B hA hB => ?_); simp [h1, h2, h5, h6, hs0, hnx, m0, hlt, hi, ha, hv, hz, hw, hq, Tm.cs, hqr, e0, e4, l0, htl, hby, onW_t, onW_f, onV_s]; first | ((first | refine hA _ _ _ ?_ ?_ | refine hA _ _ _ ?_ (by first | exact .inl rfl | exact .inr (by decide)) ?_); (focus (simp [h1, h2, h5, h6, hs0, hnx, m0, hlt, hi, ha, hv, hz, hw, hq, Tm.cs, hqr, e0, e4, l0, htl, hby] <;> omega)); clear hA hB A B) | (refine hB ?_; clear hA hB A B) | (refine onV_if ?_ ?_; (focus (first | omega | (refine ⟨?_, ?_⟩ <;> omega))); simp only [onV_s]; (first | refine hA _ _ _ ?_ ?_ | refine hA _ _ _ ?_ (by first | exact .inl rfl | exact .inr (by decide)) ?_); (focus (simp [h1, h2, h5, h6, hs0, hnx, m0, hlt, hi, ha, hv, hz, hw, hq, Tm.cs, hqr, e0, e4, l0, htl, hby] <;> omega)); clear hA hB A B))
            | (refine RQ.nl ?_; refine hk _ _ ?_; clear hk k)
            | refine WP.sr fun k hk => ?_ | refine WP.r fun k hk => ?_
            | refine WP.sd _ rfl fun k hk => ?_ | refine WP.d _ rfl fun k hk => ?_
            | (refine WP.cc fun A B hA hB => ?_; simp [h1, h2, h5, h6, hs0, hnx, m0, hlt, hi, ha, hv, hz, hw, hq, Tm.cs, hqr, e0, e4, l0, htl, hby, onB_t, onB_f]; first | (refine hA ?_; clear hA hB A B) | (refine hB ?_; clear hA hB A B) | (refine onB_if (fun h => hA ?_) (fun h => hB ?_) <;> clear hA hB A B))
            | refine WP.q ?_ | refine WP.b ?_)
          exact ⟨n - 1, by omega, i + 1, acc ++ [i], by omega, by simp [h1], by simp [h2], by simp [St.get_push, St.get_drop, m0, e4, hs0], by simp, by simp; omega, by simp; omega, hm', .inr ⟨s'.nx, by omega, by simp, by simp, by simp [St.get_push, In1]⟩⟩
  · have hlt : ¬ ((i : Int) < (a.length : Int)) := by omega
    have he : colsE bd 0 a = acc := by rw [hm, List.drop_eq_nil_of_le (by omega)]; simp [colsE]
    rw [he]
    repeat' (first
      | refine WP.t ?_ | refine WP.k ?_ | refine WP.e ?_ | refine Qn ?_ | refine Qr ?_ | refine Qe ?_ | refine Bn ?_ | refine Br ?_ | refine Be ?_ | refine Bx (by decide) ?_
      | (refine RS.nl ?_; refine hk _ _ ?_; clear hk k)
      | ((first | refine RS.st fun A B hA hB => ?_ | refine RQ.st fun A B hA hB => ?_); simp [h1, h2, h6, hs0, hnx, hlt, onW_t, onW_f, onV_s]; first | ((first | refine hA _ _ _ ?_ ?_ | refine hA _ _ _ ?_ (by first | exact .inl rfl | exact .inr (by decide)) ?_); (focus (simp [h1, h2, h6, hs0, hnx, hlt] <;> omega)); clear hA hB A B) | (refine hB ?_; clear hA hB A B) | (refine onV_if ?_ ?_; (focus (first | omega | (refine ⟨?_, ?_⟩ <;> omega))); simp only [onV_s]; (first | refine hA _ _ _ ?_ ?_ | refine hA _ _ _ ?_ (by first | exact .inl rfl | exact .inr (by decide)) ?_); (focus (simp [h1, h2, h6, hs0, hnx, hlt] <;> omega)); clear hA hB A B))
      | (refine RQ.nl ?_; refine hk _ _ ?_; clear hk k)
      | refine WP.sr fun k hk => ?_ | refine WP.r fun k hk => ?_
      | refine WP.sd _ rfl fun k hk => ?_ | refine WP.d _ rfl fun k hk => ?_
      | (refine WP.cc fun A B hA hB => ?_; simp [h1, h2, h6, hs0, hnx, hlt, onB_t, onB_f]; first | (refine hA ?_; clear hA hB A B) | (refine hB ?_; clear hA hB A B) | (refine onB_if (fun h => hA ?_) (fun h => hB ?_) <;> clear hA hB A B))
      | refine WP.q ?_ | refine WP.b ?_)
    rcases hB with ⟨rfl, h5⟩ | ⟨q, hq1, hq2, h5, hqr⟩
    · exact ⟨.inr rfl, .nsl, by simp [h5], .nil⟩
    · exact ⟨.inr rfl, .ls q 0 acc.length, by simp [h5], frz_sl cIn hqr (by omega) rfl⟩
end
end Go.Am
namespace Go.Am
open Go.Proofs
def nextE (bd : List Str) : Nat → List Lit → List Bool → Int → Int → Int
  | i, l :: ls, d :: ds, best, most => if d = true then nextE bd (i + 1) ls ds best most else if l.kind ≠ 1 ∧ knownE (termsE l) bd = true then (i : Int) else if l.kind = 1 ∧ most < ((colsE bd 0 l.atom.a).length : Int) then nextE bd (i + 1) ls ds i ((colsE bd 0 l.atom.a).length : Int) else nextE bd (i + 1) ls ds best most
  | _, _, _, best, _ => best
theorem nextE_drop {bd : List Str} {b : List Lit} {d : List Bool} {best most : Int} {i : Nat} (h : i < b.length) (h2 : i < d.length) : nextE bd i (b.drop i) (d.drop i) best most = if d[i] = true then nextE bd (i + 1) (b.drop (i + 1)) (d.drop (i + 1)) best most else if b[i].kind ≠ 1 ∧ knownE (termsE b[i]) bd = true then (i : Int) else if b[i].kind = 1 ∧ most < ((colsE bd 0 b[i].atom.a).length : Int) then nextE bd (i + 1) (b.drop (i + 1)) (d.drop (i + 1)) i ((colsE bd 0 b[i].atom.a).length : Int) else nextE bd (i + 1) (b.drop (i + 1)) (d.drop (i + 1)) best most := by
  rw [List.drop_eq_getElem_cons h, List.drop_eq_getElem_cons h2]; rfl
theorem termsE_len (l : Lit) : (termsE l).length ≤ l.atom.a.length + 2 := by
  unfold termsE
  split <;> simp
section
variable {K : Nat} {gw : World} {s : St}
attribute [local simp] awanted xop zOf cz zrow aop ev T0 Slots.put Slots.set Slots.get awr WOk AV.may ofConst abinop aint isConst St.get_push St.get_put St.live AV.fit AV.cells AV.one fieldOf afieldAddr aload ofCells astore splice May eqres env_ti FinP FinZ FinW ares aresL ares1 Fns.addP Fns.add Fns.a0 Fns.a1 Fns.a2 Fns.a3 Fns.a4 abuiltin alenOk alen aindex elemOfT elemId abuildSlice afill chunks ard aappend isSS AV.isStr aminmax placesOf abuild afield aidx isStrD isStrDesc astrop aslice asliceOk abound arange anext aextract aunop aeq AV.ck avseq aveq aconv aconvert onB_t onB_f List.range_succ
noncomputable def Q21 : Fns := ((Q20.addN 21 fun xs => match xs with
  | [.sl c, .sl d] => match unL cTm c, unL cSt d with
    | some l, some bd => if l.length < LIM ∧ bd.length < LIM then some (.bool (knownE l bd)) else none
    | _, _ => none
  | _ => none).addP 93 fun xs => match xs with
  | [.agg c] => match cLit.un c with
    | some l => some (.sl ((termsE l).map Tm.cs))
    | none => none
  | _ => none).addN 94 fun xs => match xs with
  | [.agg c, .sl d] => match cAtm.un c, unL cSt d with
    | some t, some bd => if t.a.length < 268435456 ∧ bd.length < LIM then some (.sl ((colsE bd 0 t.a).map In1)) else none
    | _, _ => none
  | _ => none
theorem Q21_ok : FOk (env K gw) Q21 := by
  refine ((Q20_ok.addN fun xs s r h => ?_).addP fun xs s r h => ?_).addN fun xs s r h => ?_
  · split at h
    · split at h
      · rename_i hc hd
        split at h
        · rename_i hl
          cases h
          rw [unL_eq cTm _ _ hc, unL_eq cSt _ _ hd]
          exact ft_RKnown _ _ hl.1 hl.2
        · cases h
      · cases h
    · cases h
  · split at h
    · split at h
      · rename_i hc
        cases h
        rw [cLit.cs_un _ _ hc]
        exact ft_RTerms _
      · cases h
    · cases h
  · split at h
    · split at h
      · rename_i hc hd
        split at h
        · rename_i hl
          cases h
          rw [cAtm.cs_un _ _ hc, unL_eq cSt _ _ hd]
          exact ft_RCols _ _ hl.1 hl.2
        · cases h
      · cases h
    · cases h
theorem Q21_known (l : List Tm) (bd : List Str) (h1 : l.length < LIM) (h2 : bd.length < LIM) (s2 : St) : Q21 21 [.sl (l.map Tm.cs), .sl (bd.map St1)] s2 = some (.bool (knownE l bd), s2, []) := by
  have u1 := unL_Tm l
  have u2 := unL_St bd
  simp [Q21, Fns.addN, nrm, nrm0, u1, u2, h1, h2]
theorem Q21_terms (l : Lit) (s2 : St) : Q21 93 [.agg l.cs] s2 = some (.sl ((termsE l).map Tm.cs), s2, []) := by
  have u1 : cLit.un l.cs = some l := cLit.un_cs l
  simp [Q21, Fns.addN, u1]
theorem Q21_cols (t : Atm) (bd : List Str) (h1 : t.a.length < 268435456) (h2 : bd.length < LIM) (s2 : St) : Q21 94 [.agg [.str t.p, .sl (t.a.map Tm.cs)], .sl (bd.map St1)] s2 = some (.sl ((colsE bd 0 t.a).map In1), s2, []) := by
  have hA : cAtm.un [.str t.p, .sl (t.a.map Tm.cs)] = some t := cAtm.un_cs t
  have u2 := unL_St bd
  simp [Q21, Fns.addN, nrm, nrm0, hA, u2, h1, h2]
set_option maxHeartbeats 1000000 in
theorem ft_RNext (r : Rl) (d : List Bool) (bd : List Str) (hb : r.body.length < MB) (hw : wL r.body < MB) (hd : d.length = r.body.length) (hbd : bd.length < LIM) :
    FT (env K gw) NoW 68 [.agg r.cs, .sl (d.map Bo1), .sl (bd.map St1)] s (.int .i64 (nextE bd 0 r.body d (-1) (-1))) s := by
  obtain ⟨⟨hp, ha⟩, b⟩ := r
  simp only at hb hw hd
  refine FT.pure (fn := Tryz.f68) Q21_ok mixed Tryz.func68 (by kernel_rfl) (by rfl) rfl rfl (by simp) rfl fun μ w => ?_
  repeat' (first
    | refine WP.t ?_ | refine WP.k ?_ | refine WP.e ?_ | refine Qn ?_ | refine Qr ?_ | refine Qe ?_ | refine Bn ?_ | refine Br ?_ | refine Be ?_ | refine Bx (by decide) ?_
    | (refine RS.nl ?_; refine hk _ _ ?_; clear hk k)
    | ((first | refine RS.st fun A B hA hB => ?_ | refine RQ.st fun A B hA hB => ?_); simp [Rl.cs, onW_t, onW_f, onV_s]; first | ((first | refine hA _ _ _ ?_ ?_ | refine hA _ _ _ ?_ (by first | exact .inl rfl | exact .inr (by decide)) ?_); (focus (simp [Rl.cs] <;> omega)); clear hA hB A B) | (refine hB ?_; clear hA hB A B) | (refine onV_if ?_ ?_; (focus (first | omega | (refine ⟨?_, ?_⟩ <;> omega))); simp only [onV_s]; (first | refine hA _ _ _ ?_ ?_ | refine hA _ _ _ ?_ (by first | exact .inl rfl | exact .inr (by decide)) ?_); (focus (simp [Rl.cs] <;> omega)); clear hA hB A B))
    | (refine RQ.nl ?_; refine hk _ _ ?_; clear hk k)
    | refine WP.sr fun k hk => ?_ | refine WP.r fun k hk => ?_
    | refine WP.sd _ rfl fun k hk => ?_ | refine WP.d _ rfl fun k hk => ?_
    | (refine WP.cc fun A B hA hB => ?_; simp [Rl.cs, onB_t, onB_f]; first | (refine hA ?_; clear hA hB A B) | (refine hB ?_; clear hA hB A B) | (refine onB_if (fun h => hA ?_) (fun h => hB ?_) <;> clear hA hB A B))
    | refine WP.q ?_ | refine WP.b ?_)
  refine WP_loop (fun n T s' => ∃ (i : Nat) (best most : Int), n + i = b.length ∧ T.get 1 = .sl (d.map Bo1) ∧ T.get 2 = .sl (bd.map St1) ∧ T.get 3 = .ptr s.nx 0 ∧ s'.get s.nx = some (.var 40 [.str hp, .sl (ha.map Tm.cs), .sl (b.map Lit.cs)]) ∧ T.get 7 = .int .i64 best ∧ T.get 8 = .int .i64 most ∧ T.get 9 = .int .i64 i ∧ s.nx < s'.nx ∧
    nextE bd 0 b d (-1) (-1) = nextE bd i (b.drop i) (d.drop i) best most) b.length
    ⟨0, -1, -1, by simp, by simp, by simp, by simp, by simp [St.get_push], by simp, by simp, by simp, by simp, by simp⟩ ?_
  rintro n T s' ⟨i, best, most, hn, h1, h2, h3, hs0, h7, h8, h9, hnx, hm⟩
  have m0 : ¬ s.nx = s'.nx := by omega
  have l1 : s.nx < s'.nx + 1 := by omega
  by_cases hi : i < b.length
  · have hi2 : i < d.length := by omega
    have hwi : IntKind.i64.wrap ((i : Int) + 1) = (i : Int) + 1 := wrap64 (by omega) (by simp only [MB] at hb; omega)
    have hlt : ((i : Int) < (b.length : Int)) := by omega
    have hbi : b[i]? = some b[i] := List.getElem?_eq_getElem hi
    have hdi : d[i]? = some d[i] := List.getElem?_eq_getElem hi2
    have hmd := hm.trans (nextE_drop hi hi2)
    have hla := wL_mem (List.getElem_mem hi)
    generalize hl : b[i] = l at *
    generalize hdv : d[i] = dv at *
    have hlcs : l.cs = [.int .i64 l.kind, .str l.atom.p, .sl (l.atom.a.map Tm.cs), .str l.op, .bool l.l.b, .str l.l.k, .bool l.l.v.b, .str l.l.v.s, .int .i64 l.l.v.n, .bool l.r.b, .str l.r.k, .bool l.r.v.b, .str l.r.v.s, .int .i64 l.r.v.n] := rfl
    cases dv with
    | true =>
      rw [if_pos rfl] at hmd
      repeat' (first
        | refine WP.t ?_ | refine WP.k ?_ | refine WP.e ?_ | refine Qn ?_ | refine Qr ?_ | refine Qe ?_ | refine Bn ?_ | refine Br ?_ | refine Be ?_ | refine Bx (by decide) ?_
        | (refine RS.nl ?_; refine hk _ _ ?_; clear hk k)
        | ((first | refine RS.st fun A B hA hB => ?_ | refine RQ.st fun A B hA hB => ?_); simp [h1, h2, h3, h7, h8, h9, hs0, hnx, m0, l1, hlt, hi, hi2, hbi, hdi, hl, hdv, hwi, hlcs, Bo1, onW_t, onW_f, onV_s]; first | ((first | refine hA _ _ _ ?_ ?_ | refine hA _ _ _ ?_ (by first | exact .inl rfl | exact .inr (by decide)) ?_); (focus (simp [h1, h2, h3, h7, h8, h9, hs0, hnx, m0, l1, hlt, hi, hi2, hbi, hdi, hl, hdv, hwi, hlcs, Bo1] <;> omega)); clear hA hB A B) | (refine hB ?_; clear hA hB A B) | (refine onV_if ?_ ?_; (focus (first | omega | (refine ⟨?_, ?_⟩ <;> omega))); simp only [onV_s]; (first | refine hA _ _ _ ?_ ?_ | refine hA _ _ _ ?_ (by first | exact .inl rfl | exact .inr (by decide)) ?_); (focus (simp [h1, h2, h3, h7, h8, h9, hs0, hnx, m0, l1, hlt, hi, hi2, hbi, hdi, hl, hdv, hwi, hlcs, Bo1] <;> omega)); clear hA hB A B))
        | (refine RQ.nl ?_; refine hk _ _ ?_; clear hk k)
        | refine WP.sr fun k hk => ?_ | refine WP.r fun k hk => ?_
        | refine WP.sd _ rfl fun k hk => ?_ | refine WP.d _ rfl fun k hk => ?_
        | (refine WP.cc fun A B hA hB => ?_; simp [h1, h2, h3, h7, h8, h9, hs0, hnx, m0, l1, hlt, hi, hi2, hbi, hdi, hl, hdv, hwi, hlcs, Bo1, onB_t, onB_f]; first | (refine hA ?_; clear hA hB A B) | (refine hB ?_; clear hA hB A B) | (refine onB_if (fun h => hA ?_) (fun h => hB ?_) <;> clear hA hB A B))
        | refine WP.q ?_ | refine WP.b ?_)
      exact ⟨n - 1, by omega, i + 1, best, most, by omega, by simp [h1], by simp [h2], by simp [h3], by simp [St.get_push, St.get_put, hs0, m0], by simp [h7], by simp [h8], by simp, by simp; omega, hmd⟩
    | false =>
      rw [if_neg (by simp)] at hmd
      have htl := termsE_len l
      have hQt := fun s2 => Q21_terms l s2
      have hQk := fun s2 => Q21_known (termsE l) bd (by simp only [MB, LIM] at *; omega) hbd s2
      have hQc := fun s2 => Q21_cols l.atom bd (by simp only [MB] at hw; omega) hbd s2
      rw [hlcs] at hQt
      by_cases hk1 : l.kind = 1
      · have hkb : (l.kind != 1) = false := by simp [hk1]
        have hkc : (l.kind == 1) = true := by simp [hk1]
        rw [if_neg (by simp [hk1])] at hmd
        by_cases hmo : most < ((colsE bd 0 l.atom.a).length : Int)
        · rw [if_pos ⟨hk1, hmo⟩] at hmd
          repeat' (first
            | refine WP.t ?_ | refine WP.k ?_ | refine WP.e ?_ | refine Qn ?_ | refine Qr ?_ | refine Qe ?_ | refine Bn ?_ | refine Br ?_ | refine Be ?_ | refine Bx (by decide) ?_
            | (refine RS.nl ?_; refine hk _ _ ?_; clear hk k)
            | ((first | refine RS.st fun A B hA hB => ?_ | refine RQ.st fun A B hA hB => ?_); simp [h1, h2, h3, h7, h8, h9, hs0, hnx, m0, l1, hlt, hi, hi2, hbi, hdi, hl, hdv, hwi, hlcs, Bo1, hkb, hkc, hQc, hmo, onW_t, onW_f, onV_s]; first | ((first | refine hA _ _ _ ?_ ?_ | refine hA _ _ _ ?_ (by first | exact .inl rfl | exact .inr (by decide)) ?_); (focus (simp [h1, h2, h3, h7, h8, h9, hs0, hnx, m0, l1, hlt, hi, hi2, hbi, hdi, hl, hdv, hwi, hlcs, Bo1, hkb, hkc, hQc, hmo] <;> omega)); clear hA hB A B) | (refine hB ?_; clear hA hB A B) | (refine onV_if ?_ ?_; (focus (first | omega | (refine ⟨?_, ?_⟩ <;> omega))); simp only [onV_s]; (first | refine hA _ _ _ ?_ ?_ | refine hA _ _ _ ?_ (by first | exact .inl rfl | exact .inr (by decide)) ?_); (focus (simp [h1, h2, h3, h7, h8, h9, hs0, hnx, m0, l1, hlt, hi, hi2, hbi, hdi, hl, hdv, hwi, hlcs, Bo1, hkb, hkc, hQc, hmo] <;> omega)); clear hA hB A B))
            | (refine RQ.nl ?_; refine hk _ _ ?_; clear hk k)
            | refine WP.sr fun k hk => ?_ | refine WP.r fun k hk => ?_
            | refine WP.sd _ rfl fun k hk => ?_ | refine WP.d _ rfl fun k hk => ?_
            | (refine WP.cc fun A B hA hB => ?_; simp [h1, h2, h3, h7, h8, h9, hs0, hnx, m0, l1, hlt, hi, hi2, hbi, hdi, hl, hdv, hwi, hlcs, Bo1, hkb, hkc, hQc, hmo, onB_t, onB_f]; first | (refine hA ?_; clear hA hB A B) | (refine hB ?_; clear hA hB A B) | (refine onB_if (fun h => hA ?_) (fun h => hB ?_) <;> clear hA hB A B))
            | refine WP.q ?_ | refine WP.b ?_)
          exact ⟨n - 1, by omega, i + 1, _, _, by omega, by simp [h1], by simp [h2], by simp [h3], by simp [St.get_push, St.get_put, hs0, m0], by simp, by simp, by simp, by simp; omega, hmd⟩
        · rw [if_neg (fun h => hmo h.2)] at hmd
          repeat' (first
            | refine WP.t ?_ | refine WP.k ?_ | refine WP.e ?_ | refine Qn ?_ | refine Qr ?_ | refine Qe ?_ | refine Bn ?_ | refine Br ?_ | refine Be ?_ | refine Bx (by decide) ?_
            | (refine RS.nl ?_; refine hk _ _ ?_; clear hk k)
            | ((first | refine RS.st fun A B hA hB => ?_ | refine RQ.st fun A B hA hB => ?_); simp [h1, h2, h3, h7, h8, h9, hs0, hnx, m0, l1, hlt, hi, hi2, hbi, hdi, hl, hdv, hwi, hlcs, Bo1, hkb, hkc, hQc, hmo, onW_t, onW_f, onV_s]; first | ((first | refine hA _ _ _ ?_ ?_ | refine hA _ _ _ ?_ (by first | exact .inl rfl | exact .inr (by decide)) ?_); (focus (simp [h1, h2, h3, h7, h8, h9, hs0, hnx, m0, l1, hlt, hi, hi2, hbi, hdi, hl, hdv, hwi, hlcs, Bo1, hkb, hkc, hQc, hmo] <;> omega)); clear hA hB A B) | (refine hB ?_; clear hA hB A B) | (refine onV_if ?_ ?_; (focus (first | omega | (refine ⟨?_, ?_⟩ <;> omega))); simp only [onV_s]; (first | refine hA _ _ _ ?_ ?_ | refine hA _ _ _ ?_ (by first | exact .inl rfl | exact .inr (by decide)) ?_); (focus (simp [h1, h2, h3, h7, h8, h9, hs0, hnx, m0, l1, hlt, hi, hi2, hbi, hdi, hl, hdv, hwi, hlcs, Bo1, hkb, hkc, hQc, hmo] <;> omega)); clear hA hB A B))
            | (refine RQ.nl ?_; refine hk _ _ ?_; clear hk k)
            | refine WP.sr fun k hk => ?_ | refine WP.r fun k hk => ?_
            | refine WP.sd _ rfl fun k hk => ?_ | refine WP.d _ rfl fun k hk => ?_
            | (refine WP.cc fun A B hA hB => ?_; simp [h1, h2, h3, h7, h8, h9, hs0, hnx, m0, l1, hlt, hi, hi2, hbi, hdi, hl, hdv, hwi, hlcs, Bo1, hkb, hkc, hQc, hmo, onB_t, onB_f]; first | (refine hA ?_; clear hA hB A B) | (refine hB ?_; clear hA hB A B) | (refine onB_if (fun h => hA ?_) (fun h => hB ?_) <;> clear hA hB A B))
            | refine WP.q ?_ | refine WP.b ?_)
          exact ⟨n - 1, by omega, i + 1, best, most, by omega, by simp [h1], by simp [h2], by simp [h3], by simp [St.get_push, St.get_put, hs0, m0], by simp [h7], by simp [h8], by simp, by simp; omega, hmd⟩
      · have hkb : (l.kind != 1) = true := by simp [hk1]
        have hkc : (l.kind == 1) = false := by simp [hk1]
        cases hkn : knownE (termsE l) bd with
        | true =>
          rw [if_pos ⟨hk1, hkn⟩] at hmd
          rw [hkn] at hQk
          repeat' (first
            | refine WP.t ?_ | refine WP.k ?_ | refine WP.e ?_ | refine Qn ?_ | refine Qr ?_ | refine Qe ?_ | refine Bn ?_ | refine Br ?_ | refine Be ?_ | refine Bx (by decide) ?_
            | (refine RS.nl ?_; refine hk _ _ ?_; clear hk k)
            | ((first | refine RS.st fun A B hA hB => ?_ | refine RQ.st fun A B hA hB => ?_); simp [h1, h2, h3, h7, h8, h9, hs0, hnx, m0, l1, hlt, hi, hi2, hbi, hdi, hl, hdv, hwi, hlcs, Bo1, hkb, hkc, hQt, hQk, onW_t, onW_f, onV_s]; first | ((first | refine hA _ _ _ ?_ ?_ | refine hA _ _ _ ?_ (by first | exact .inl rfl | exact .inr (by decide)) ?_); (focus (simp [h1, h2, h3, h7, h8, h9, hs0, hnx, m0, l1, hlt, hi, hi2, hbi, hdi, hl, hdv, hwi, hlcs, Bo1, hkb, hkc, hQt, hQk] <;> omega)); clear hA hB A B) | (refine hB ?_; clear hA hB A B) | (refine onV_if ?_ ?_; (focus (first | omega | (refine ⟨?_, ?_⟩ <;> omega))); simp only [onV_s]; (first | refine hA _ _ _ ?_ ?_ | refine hA _ _ _ ?_ (by first | exact .inl rfl | exact .inr (by decide)) ?_); (focus (simp [h1, h2, h3, h7, h8, h9, hs0, hnx, m0, l1, hlt, hi, hi2, hbi, hdi, hl, hdv, hwi, hlcs, Bo1, hkb, hkc, hQt, hQk] <;> omega)); clear hA hB A B))
            | (refine RQ.nl ?_; refine hk _ _ ?_; clear hk k)
            | refine WP.sr fun k hk => ?_ | refine WP.r fun k hk => ?_
            | refine WP.sd _ rfl fun k hk => ?_ | refine WP.d _ rfl fun k hk => ?_
            | (refine WP.cc fun A B hA hB => ?_; simp [h1, h2, h3, h7, h8, h9, hs0, hnx, m0, l1, hlt, hi, hi2, hbi, hdi, hl, hdv, hwi, hlcs, Bo1, hkb, hkc, hQt, hQk, onB_t, onB_f]; first | (refine hA ?_; clear hA hB A B) | (refine hB ?_; clear hA hB A B) | (refine onB_if (fun h => hA ?_) (fun h => hB ?_) <;> clear hA hB A B))
            | refine WP.q ?_ | refine WP.b ?_)
          simp [hmd]
        | false =>
          rw [if_neg (by simp [hkn]), if_neg (fun h => hk1 h.1)] at hmd
          rw [hkn] at hQk
          repeat' (first
            | refine WP.t ?_ | refine WP.k ?_ | refine WP.e ?_ | refine Qn ?_ | refine Qr ?_ | refine Qe ?_ | refine Bn ?_ | refine Br ?_ | refine Be ?_ | refine Bx (by decide) ?_
            | (refine RS.nl ?_; refine hk _ _ ?_; clear hk k)
            | ((first | refine RS.st fun A B hA hB => ?_ | refine RQ.st fun A B hA hB => ?_); simp [h1, h2, h3, h7, h8, h9, hs0, hnx, m0, l1, hlt, hi, hi2, hbi, hdi, hl, hdv, hwi, hlcs, Bo1, hkb, hkc, hQt, hQk, hQc, onW_t, onW_f, onV_s]; first | ((first | refine hA _ _ _ ?_ ?_ | refine hA _ _ _ ?_ (by first | exact .inl rfl | exact .inr (by decide)) ?_); (focus (simp [h1, h2, h3, h7, h8, h9, hs0, hnx, m0, l1, hlt, hi, hi2, hbi, hdi, hl, hdv, hwi, hlcs, Bo1, hkb, hkc, hQt, hQk, hQc] <;> omega)); clear hA hB A B) | (refine hB ?_; clear hA hB A B) | (refine onV_if ?_ ?_; (focus (first | omega | (refine ⟨?_, ?_⟩ <;> omega))); simp only [onV_s]; (first | refine hA _ _ _ ?_ ?_ | refine hA _ _ _ ?_ (by first | exact .inl rfl | exact .inr (by decide)) ?_); (focus (simp [h1, h2, h3, h7, h8, h9, hs0, hnx, m0, l1, hlt, hi, hi2, hbi, hdi, hl, hdv, hwi, hlcs, Bo1, hkb, hkc, hQt, hQk, hQc] <;> omega)); clear hA hB A B))
            | (refine RQ.nl ?_; refine hk _ _ ?_; clear hk k)
            | refine WP.sr fun k hk => ?_ | refine WP.r fun k hk => ?_
            | refine WP.sd _ rfl fun k hk => ?_ | refine WP.d _ rfl fun k hk => ?_
            | (refine WP.cc fun A B hA hB => ?_; simp [h1, h2, h3, h7, h8, h9, hs0, hnx, m0, l1, hlt, hi, hi2, hbi, hdi, hl, hdv, hwi, hlcs, Bo1, hkb, hkc, hQt, hQk, hQc, onB_t, onB_f]; first | (refine hA ?_; clear hA hB A B) | (refine hB ?_; clear hA hB A B) | (refine onB_if (fun h => hA ?_) (fun h => hB ?_) <;> clear hA hB A B))
            | refine WP.q ?_ | refine WP.b ?_)
          exact ⟨n - 1, by omega, i + 1, best, most, by omega, by simp [h1], by simp [h2], by simp [h3], by simp [St.get_push, St.get_put, hs0, m0], by simp [h7], by simp [h8], by simp, by simp; omega, hmd⟩
  · have hlt : ¬ ((i : Int) < (b.length : Int)) := by omega
    have he : nextE bd 0 b d (-1) (-1) = best := by rw [hm, List.drop_eq_nil_of_le (by omega)]; rfl
    repeat' (first
      | refine WP.t ?_ | refine WP.k ?_ | refine WP.e ?_ | refine Qn ?_ | refine Qr ?_ | refine Qe ?_ | refine Bn ?_ | refine Br ?_ | refine Be ?_ | refine Bx (by decide) ?_
      | (refine RS.nl ?_; refine hk _ _ ?_; clear hk k)
      | ((first | refine RS.st fun A B hA hB => ?_ | refine RQ.st fun A B hA hB => ?_); simp [h1, h2, h3, h7, h8, h9, hs0, hnx, m0, l1, hlt, onW_t, onW_f, onV_s]; first | ((first | refine hA _ _ _ ?_ ?_ | refine hA _ _ _ ?_ (by first | exact .inl rfl | exact .inr (by decide)) ?_); (focus (simp [h1, h2, h3, h7, h8, h9, hs0, hnx, m0, l1, hlt] <;> omega)); clear hA hB A B) | (refine hB ?_; clear hA hB A B) | (refine onV_if ?_ ?_; (focus (first | omega | (refine ⟨?_, ?_⟩ <;> omega))); simp only [onV_s]; (first | refine hA _ _ _ ?_ ?_ | refine hA _ _ _ ?_ (by first | exact .inl rfl | exact .inr (by decide)) ?_); (focus (simp [h1, h2, h3, h7, h8, h9, hs0, hnx, m0, l1, hlt] <;> omega)); clear hA hB A B))
      | (refine RQ.nl ?_; refine hk _ _ ?_; clear hk k)
      | refine WP.sr fun k hk => ?_ | refine WP.r fun k hk => ?_
      | refine WP.sd _ rfl fun k hk => ?_ | refine WP.d _ rfl fun k hk => ?_
      | (refine WP.cc fun A B hA hB => ?_; simp [h1, h2, h3, h7, h8, h9, hs0, hnx, m0, l1, hlt, onB_t, onB_f]; first | (refine hA ?_; clear hA hB A B) | (refine hB ?_; clear hA hB A B) | (refine onB_if (fun h => hA ?_) (fun h => hB ?_) <;> clear hA hB A B))
      | refine WP.q ?_ | refine WP.b ?_)
    simp [he, h7]
end
end Go.Am
