/- Part of the proof: abstract values over the given model of Go (R4, R5, R6). Conditions: none of its own; see the statement in the seat's Rows text. -/
import Derived.Test.YtkhfjjgcafkihaaGreatAmRa
set_option linter.unusedSimpArgs false
set_option linter.unusedVariables false
set_option linter.unusedSectionVars false
namespace Go.Am
open Go.Proofs
def okE (e : Envr) : Bool := e.all fun p => decide (p.v.s.length < LIM)
def okTms (l : List Tm) : Bool := l.all fun t => decide (t.v.s.length < LIM)
theorem okE_iff {e : Envr} : okE e = true ↔ ∀ p ∈ e, p.v.s.length < LIM := by simp [okE]
theorem okTms_iff {l : List Tm} : okTms l = true ↔ ∀ t ∈ l, t.v.s.length < LIM := by simp [okTms]
theorem bareV_len (v : V) : (bareV v).s.length ≤ v.s.length := by
  unfold bareV
  split <;> simp
theorem getE_ok {e : Envr} {nm : Str} {v : V} (he : okE e = true) (h : getE e nm = some v) : v.s.length < LIM := by
  unfold getE at h
  obtain ⟨p, hp, rfl⟩ := Option.map_eq_some_iff.1 h
  exact okE_iff.1 he p (List.mem_of_find?_eq_some hp)
theorem valT_ok {t : Tm} {e : Envr} {v : V} (he : okE e = true) (ht : t.v.s.length < LIM) (h : valT t e = some v) : v.s.length < LIM := by
  unfold valT at h
  split at h
  · exact getE_ok he h
  · cases h
    exact Nat.lt_of_le_of_lt (bareV_len _) ht
theorem withE_ok {e : Envr} {nm : Str} {v : V} (he : okE e = true) (hv : v.s.length < LIM) : okE (withE e nm v) = true := by
  rw [okE_iff] at *
  intro p hp
  unfold withE insR at hp
  rcases List.mem_append.1 hp with h | h
  · exact he p (List.mem_of_mem_take h)
  · rcases List.mem_cons.1 h with rfl | h
    · exact Nat.lt_of_le_of_lt (bareV_len _) hv
    · exact he p (List.mem_of_mem_drop h)
theorem matchE_ok : ∀ {a : List Tm} {r : List V} {e e' : Envr}, okE e = true → (∀ v ∈ r, v.s.length < LIM) → matchE a r e = some e' → okE e' = true
  | [], [], e, e', he, _, h => by cases h; exact he
  | [], _ :: _, e, e', _, _, h => by cases h
  | _ :: _, [], e, e', _, _, h => by cases h
  | t :: ts, v :: vs, e, e', he, hr, h => by
    simp only [matchE] at h
    split at h
    · exact matchE_ok (withE_ok he (hr v (by simp))) (fun u hu => hr u (by simp [hu])) h
    · split at h
      · exact matchE_ok he (fun u hu => hr u (by simp [hu])) h
      · cases h
theorem groundE_ok : ∀ {a : List Tm} {e : Envr} {r : List V}, okE e = true → (∀ t ∈ a, t.v.s.length < LIM) → groundE e a = some r → ∀ v ∈ r, v.s.length < LIM
  | [], e, r, _, _, h => by cases h; simp
  | t :: ts, e, r, he, ht, h => by
    simp only [groundE] at h
    split at h
    · cases h
    · rename_i u hu
      obtain ⟨r', h', rfl⟩ := Option.map_eq_some_iff.1 h
      intro v hv
      rcases List.mem_cons.1 hv with rfl | hv
      · exact valT_ok he (ht t (by simp)) hu
      · exact groundE_ok he (fun t h => ht t (by simp [h])) h' v hv
section
variable {K : Nat} {gw : World} {s : St}
attribute [local simp] awanted xop zOf cz zrow aop ev T0 Slots.put Slots.set Slots.get awr WOk AV.may ofConst abinop aint isConst St.get_push St.get_put St.live AV.fit AV.cells AV.one fieldOf afieldAddr aload ofCells astore splice May eqres env_ti FinP FinZ FinW ares aresL ares1 Fns.addP Fns.add Fns.a0 Fns.a1 Fns.a2 Fns.a3 Fns.a4 abuiltin alenOk alen aindex elemOfT elemId abuildSlice afill chunks ard aappend isSS AV.isStr aminmax placesOf abuild afield aidx isStrD isStrDesc astrop aslice asliceOk abound arange anext aextract aunop aeq AV.ck avseq aveq aconv aconvert onB_t onB_f List.range_succ
noncomputable def Q10 : Fns := (Q9.a2 74 (vSl cPr) vStr fun e nm => if e.length < LIM then some (tupV (getE e nm)) else none).a3 69 (vSl cPr) vStr (vAgg cV) fun e nm v => if e.length < 268435456 ∧ (getE e nm).isNone = true then some (.sl ((withE e nm v).map Pr.cs)) else none
theorem Q10_ok : FOk (env K gw) Q10 := by
  refine (Q9_ok.a2 fun e nm s r h => ?_).a3 fun e nm v s r h => ?_
  · split at h
    · rename_i hl; cases h; exact ft_RGet e nm hl
    · cases h
  · split at h
    · rename_i hl
      cases h
      exact ft_RWith e nm v hl.1 (Option.isNone_iff_eq_none.1 hl.2)
    · cases h
theorem ft_RValue (t : Tm) (e : Envr) (hl : e.length < LIM) : FT (env K gw) NoW 48 [.agg t.cs, .sl (e.map Pr.cs)] s (tupV (valT t e)) s := by
  have hu := unL_Pr e
  obtain ⟨b, nm, v⟩ := t
  have hub : cV.un [.bool v.b, .str v.s, .int .i64 v.n] = some v := rfl
  refine FT.pure (fn := Tryz.f48) Q10_ok mixed Tryz.func48 (by kernel_rfl) (by rfl) rfl rfl (by simp) rfl fun μ w => ?_
  cases b with
  | true =>
    cases hg : getE e nm with
    | none =>
      have hv : valT ⟨true, nm, v⟩ e = none := hg
      rw [hv]
      repeat' (first
        | refine WP.t ?_ | refine WP.k ?_ | refine WP.e ?_ | refine Qn ?_ | refine Qr ?_ | refine Qe ?_ | refine Bn ?_ | refine Br ?_ | refine Be ?_ | refine Bx (by decide) ?_
        | (refine RS.nl ?_; refine hk _ _ ?_; clear hk k)
        | ((first | refine RS.st fun A B hA hB => ?_ | refine RQ.st fun A B hA hB => ?_); simp [Q10, Tm.cs, hu, hl, hg, tupV_none, onW_t, onW_f, onV_s]; first | ((first | refine hA _ _ _ ?_ ?_ | refine hA _ _ _ ?_ (by first | exact .inl rfl | exact .inr (by decide)) ?_); (focus (simp [Q10, Tm.cs, hu, hl, hg, tupV_none] <;> omega)); clear hA hB A B) | (refine hB ?_; clear hA hB A B) | (refine onV_if ?_ ?_; (focus (first | omega | (refine ⟨?_, ?_⟩ <;> omega))); simp only [onV_s]; (first | refine hA _ _ _ ?_ ?_ | refine hA _ _ _ ?_ (by first | exact .inl rfl | exact .inr (by decide)) ?_); (focus (simp [Q10, Tm.cs, hu, hl, hg, tupV_none] <;> omega)); clear hA hB A B))
        | (refine RQ.nl ?_; refine hk _ _ ?_; clear hk k)
        | refine WP.sr fun k hk => ?_ | refine WP.r fun k hk => ?_
        | refine WP.sd _ rfl fun k hk => ?_ | refine WP.d _ rfl fun k hk => ?_
        | (refine WP.cc fun A B hA hB => ?_; simp [Q10, Tm.cs, hu, hl, hg, tupV_none, onB_t, onB_f]; first | (refine hA ?_; clear hA hB A B) | (refine hB ?_; clear hA hB A B) | (refine onB_if (fun h => hA ?_) (fun h => hB ?_) <;> clear hA hB A B))
        | refine WP.q ?_ | refine WP.b ?_)
      simp [tupV_none]
    | some u =>
      have hv : valT ⟨true, nm, v⟩ e = some u := hg
      rw [hv]
      repeat' (first
        | refine WP.t ?_ | refine WP.k ?_ | refine WP.e ?_ | refine Qn ?_ | refine Qr ?_ | refine Qe ?_ | refine Bn ?_ | refine Br ?_ | refine Be ?_ | refine Bx (by decide) ?_
        | (refine RS.nl ?_; refine hk _ _ ?_; clear hk k)
        | ((first | refine RS.st fun A B hA hB => ?_ | refine RQ.st fun A B hA hB => ?_); simp [Q10, Tm.cs, hu, hl, hg, tupV_some, V.cs, onW_t, onW_f, onV_s]; first | ((first | refine hA _ _ _ ?_ ?_ | refine hA _ _ _ ?_ (by first | exact .inl rfl | exact .inr (by decide)) ?_); (focus (simp [Q10, Tm.cs, hu, hl, hg, tupV_some, V.cs] <;> omega)); clear hA hB A B) | (refine hB ?_; clear hA hB A B) | (refine onV_if ?_ ?_; (focus (first | omega | (refine ⟨?_, ?_⟩ <;> omega))); simp only [onV_s]; (first | refine hA _ _ _ ?_ ?_ | refine hA _ _ _ ?_ (by first | exact .inl rfl | exact .inr (by decide)) ?_); (focus (simp [Q10, Tm.cs, hu, hl, hg, tupV_some, V.cs] <;> omega)); clear hA hB A B))
        | (refine RQ.nl ?_; refine hk _ _ ?_; clear hk k)
        | refine WP.sr fun k hk => ?_ | refine WP.r fun k hk => ?_
        | refine WP.sd _ rfl fun k hk => ?_ | refine WP.d _ rfl fun k hk => ?_
        | (refine WP.cc fun A B hA hB => ?_; simp [Q10, Tm.cs, hu, hl, hg, tupV_some, V.cs, onB_t, onB_f]; first | (refine hA ?_; clear hA hB A B) | (refine hB ?_; clear hA hB A B) | (refine onB_if (fun h => hA ?_) (fun h => hB ?_) <;> clear hA hB A B))
        | refine WP.q ?_ | refine WP.b ?_)
      simp [tupV_some, V.cs]
  | false =>
    have hv : valT ⟨false, nm, v⟩ e = some (bareV v) := rfl
    rw [hv]
    repeat' (first
      | refine WP.t ?_ | refine WP.k ?_ | refine WP.e ?_ | refine Qn ?_ | refine Qr ?_ | refine Qe ?_ | refine Bn ?_ | refine Br ?_ | refine Be ?_ | refine Bx (by decide) ?_
      | (refine RS.nl ?_; refine hk _ _ ?_; clear hk k)
      | ((first | refine RS.st fun A B hA hB => ?_ | refine RQ.st fun A B hA hB => ?_); simp [Q10, Q9, Q8, Q7, Q6, Q5, Tm.cs, hu, hl, hub, tupV_some, V.cs, onW_t, onW_f, onV_s]; first | ((first | refine hA _ _ _ ?_ ?_ | refine hA _ _ _ ?_ (by first | exact .inl rfl | exact .inr (by decide)) ?_); (focus (simp [Q10, Q9, Q8, Q7, Q6, Q5, Tm.cs, hu, hl, hub, tupV_some, V.cs] <;> omega)); clear hA hB A B) | (refine hB ?_; clear hA hB A B) | (refine onV_if ?_ ?_; (focus (first | omega | (refine ⟨?_, ?_⟩ <;> omega))); simp only [onV_s]; (first | refine hA _ _ _ ?_ ?_ | refine hA _ _ _ ?_ (by first | exact .inl rfl | exact .inr (by decide)) ?_); (focus (simp [Q10, Q9, Q8, Q7, Q6, Q5, Tm.cs, hu, hl, hub, tupV_some, V.cs] <;> omega)); clear hA hB A B))
      | (refine RQ.nl ?_; refine hk _ _ ?_; clear hk k)
      | refine WP.sr fun k hk => ?_ | refine WP.r fun k hk => ?_
      | refine WP.sd _ rfl fun k hk => ?_ | refine WP.d _ rfl fun k hk => ?_
      | (refine WP.cc fun A B hA hB => ?_; simp [Q10, Q9, Q8, Q7, Q6, Q5, Tm.cs, hu, hl, hub, tupV_some, V.cs, onB_t, onB_f]; first | (refine hA ?_; clear hA hB A B) | (refine hB ?_; clear hA hB A B) | (refine onB_if (fun h => hA ?_) (fun h => hB ?_) <;> clear hA hB A B))
      | refine WP.q ?_ | refine WP.b ?_)
    simp [tupV_some, V.cs]
noncomputable def Q11 : Fns := Q10.addN 48 fun xs => match xs with
  | [.agg c, .sl d] => match cTm.un c, unL cPr d with
    | some t, some e => if e.length < LIM then some (tupV (valT t e)) else none
    | _, _ => none
  | _ => none
theorem Q11_ok : FOk (env K gw) Q11 := by
  refine Q10_ok.addN fun xs s r h => ?_
  split at h
  · split at h
    · rename_i hc hd
      split at h
      · rename_i hl
        cases h
        rw [cTm.cs_un _ _ hc, unL_eq cPr _ _ hd]
        exact ft_RValue _ _ hl
      · cases h
    · cases h
  · cases h
end
end Go.Am
namespace Go.Am
open Go.Proofs
section
variable {K : Nat} {gw : World} {s : St}
attribute [local simp] awanted xop zOf cz zrow aop ev T0 Slots.put Slots.set Slots.get awr WOk AV.may ofConst abinop aint isConst St.get_push St.get_put St.live AV.fit AV.cells AV.one fieldOf afieldAddr aload ofCells astore splice May eqres env_ti FinP FinZ FinW ares aresL ares1 Fns.addP Fns.add Fns.a0 Fns.a1 Fns.a2 Fns.a3 Fns.a4 abuiltin alenOk alen aindex elemOfT elemId abuildSlice afill chunks ard aappend isSS AV.isStr aminmax placesOf abuild afield aidx isStrD isStrDesc astrop aslice asliceOk abound arange anext aextract aunop aeq AV.ck avseq aveq aconv aconvert onB_t onB_f List.range_succ
theorem Q10_same (v u : V) (hv : v.s.length < LIM) (hu : u.s.length < LIM) (s2 : St) : Q10 25 [.agg [.bool v.b, .str v.s, .int .i64 v.n], .agg [.bool u.b, .str u.s, .int .i64 u.n]] s2 = some (.bool (cmpV v u == 0), s2, []) := by
  have := Q5_same v u hv hu s2
  simp only [V.cs] at this
  simpa [Q10, Q9, Q8, Q7, Q6] using this
set_option maxHeartbeats 1000000 in
theorem ft_RMatch (t : Atm) (r : List V) (e : Envr) (hl : e.length + t.a.length < 268435456) (hr : r.length < 268435456) (hrs : ∀ v ∈ r, v.s.length < LIM) (hes : okE e = true) (hts : ∀ x ∈ t.a, x.v.s.length < LIM) : FT (env K gw) NoW 42 [.agg t.cs, .sl (r.map V.cs), .sl (e.map Pr.cs)] s (tupE (matchE t.a r e)) s := by
  obtain ⟨p, a⟩ := t
  simp only at hl hts
  refine FT.data (fn := Tryz.f42) Q11_ok mixed Tryz.func42 (by kernel_rfl) (by rfl) rfl rfl (by simp) rfl fun μ w => ?_
  by_cases hne : a.length = r.length
  · have hnb : (((a.length : Nat) : Int) != ((r.length : Nat) : Int)) = false := by simp [hne]
    repeat' (first
      | refine WP.t ?_ | refine WP.k ?_ | refine WP.e ?_ | refine Qn ?_ | refine Qr ?_ | refine Qe ?_ | refine Bn ?_ | refine Br ?_ | refine Be ?_ | refine Bx (by decide) ?_
      | (refine RS.nl ?_; refine hk _ _ ?_; clear hk k)
      | ((first | refine RS.st fun A B hA hB => ?_ | refine RQ.st fun A B hA hB => ?_); simp [Atm.cs, hnb, onW_t, onW_f, onV_s]; first | ((first | refine hA _ _ _ ?_ ?_ | refine hA _ _ _ ?_ (by first | exact .inl rfl | exact .inr (by decide)) ?_); (focus (simp [Atm.cs, hnb] <;> omega)); clear hA hB A B) | (refine hB ?_; clear hA hB A B) | (refine onV_if ?_ ?_; (focus (first | omega | (refine ⟨?_, ?_⟩ <;> omega))); simp only [onV_s]; (first | refine hA _ _ _ ?_ ?_ | refine hA _ _ _ ?_ (by first | exact .inl rfl | exact .inr (by decide)) ?_); (focus (simp [Atm.cs, hnb] <;> omega)); clear hA hB A B))
      | (refine RQ.nl ?_; refine hk _ _ ?_; clear hk k)
      | refine WP.sr fun k hk => ?_ | refine WP.r fun k hk => ?_
      | refine WP.sd _ rfl fun k hk => ?_ | refine WP.d _ rfl fun k hk => ?_
      | (refine WP.cc fun A B hA hB => ?_; simp [Atm.cs, hnb, onB_t, onB_f]; first | (refine hA ?_; clear hA hB A B) | (refine hB ?_; clear hA hB A B) | (refine onB_if (fun h => hA ?_) (fun h => hB ?_) <;> clear hA hB A B))
      | refine WP.q ?_ | refine WP.b ?_)
    refine WP_loop (fun n T s' => ∃ (i : Nat) (c : Envr), n + i = a.length ∧ T.get 1 = .sl (r.map V.cs) ∧ T.get 2 = .sl (c.map Pr.cs) ∧ T.get 3 = .ptr s.nx 0 ∧ s'.get s.nx = some (.var 37 [.str p, .sl (a.map Tm.cs)]) ∧ T.get 8 = .int .i64 i ∧ s.nx < s'.nx ∧ c.length ≤ e.length + i ∧ okE c = true ∧ matchE a r e = matchE (a.drop i) (r.drop i) c) a.length
      ⟨0, e, by simp, by simp, by simp, by simp, by simp [St.get_push], by simp, by simp, by simp, hes, by simp⟩ ?_
    rintro n T s' ⟨i, c, hn, h1, h2, h3, hs0, h8, hnx, hcl, hco, hm⟩
    by_cases hi : i < a.length
    · have hi2 : i < r.length := by omega
      have hw : IntKind.i64.wrap ((i : Int) + 1) = (i : Int) + 1 := wrap64 (by omega) (by omega)
      have hlt : ((i : Int) < (r.length : Int)) := by omega
      have ha : a[i]? = some a[i] := List.getElem?_eq_getElem hi
      have hb : r[i]? = some r[i] := List.getElem?_eq_getElem hi2
      have hmd := matchE_drop (e := c) hi hi2
      have hrv1 := hrs r[i] (List.getElem_mem hi2)
      have hat1 := hts a[i] (List.getElem_mem hi)
      have huT := fun (t : Tm) => show cTm.un [.bool t.b, .str t.k, .bool t.v.b, .str t.v.s, .int .i64 t.v.n] = some t from rfl
      have huV := fun (v : V) => show cV.un [.bool v.b, .str v.s, .int .i64 v.n] = some v from rfl
      have huP := unL_Pr c
      have hcl2 : c.length < 268435456 := by omega
      have hcl3 : c.length < LIM := by simp only [LIM]; omega
      have m0 : ¬ s.nx = s'.nx := by omega
      have l0 : s.nx < s'.nx + 1 := by omega
      generalize hat : a[i] = t at *
      generalize hrv : r[i] = v at *
      cases hv : valT t c with
      | none =>
        have hge := valT_none hv
        rw [hv] at hmd
        repeat' (first
          | refine WP.t ?_ | refine WP.k ?_ | refine WP.e ?_ | refine Qn ?_ | refine Qr ?_ | refine Qe ?_ | refine Bn ?_ | refine Br ?_ | refine Be ?_ | refine Bx (by decide) ?_
          | (refine RS.nl ?_; refine hk _ _ ?_; clear hk k)
          | ((first | refine RS.st fun A B hA hB => ?_ | refine RQ.st fun A B hA hB => ?_); simp [Q11, Fns.addN, nrm, nrm0, h1, h2, h3, h8, hs0, hnx, m0, l0, hlt, hi, hi2, ha, hb, hat, hrv, hw, huT, huP, huV, hcl2, hcl3, hv, hge, tupV_none, Q10, Tm.cs, V.cs, onW_t, onW_f, onV_s]; first | ((first | refine hA _ _ _ ?_ ?_ | refine hA _ _ _ ?_ (by first | exact .inl rfl | exact .inr (by decide)) ?_); (focus (simp [Q11, Fns.addN, nrm, nrm0, h1, h2, h3, h8, hs0, hnx, m0, l0, hlt, hi, hi2, ha, hb, hat, hrv, hw, huT, huP, huV, hcl2, hcl3, hv, hge, tupV_none, Q10, Tm.cs, V.cs] <;> omega)); clear hA hB A B) | (refine hB ?_; clear hA hB A B) | (refine onV_if ?_ ?_; (focus (first | omega | (refine ⟨?_, ?_⟩ <;> omega))); simp only [onV_s]; (first | refine hA _ _ _ ?_ ?_ | refine hA _ _ _ ?_ (by first | exact .inl rfl | exact .inr (by decide)) ?_); (focus (simp [Q11, Fns.addN, nrm, nrm0, h1, h2, h3, h8, hs0, hnx, m0, l0, hlt, hi, hi2, ha, hb, hat, hrv, hw, huT, huP, huV, hcl2, hcl3, hv, hge, tupV_none, Q10, Tm.cs, V.cs] <;> omega)); clear hA hB A B))
          | (refine RQ.nl ?_; refine hk _ _ ?_; clear hk k)
          | refine WP.sr fun k hk => ?_ | refine WP.r fun k hk => ?_
          | refine WP.sd _ rfl fun k hk => ?_ | refine WP.d _ rfl fun k hk => ?_
          | (refine WP.cc fun A B hA hB => ?_; simp [Q11, Fns.addN, nrm, nrm0, h1, h2, h3, h8, hs0, hnx, m0, l0, hlt, hi, hi2, ha, hb, hat, hrv, hw, huT, huP, huV, hcl2, hcl3, hv, hge, tupV_none, Q10, Tm.cs, V.cs, onB_t, onB_f]; first | (refine hA ?_; clear hA hB A B) | (refine hB ?_; clear hA hB A B) | (refine onB_if (fun h => hA ?_) (fun h => hB ?_) <;> clear hA hB A B))
          | refine WP.q ?_ | refine WP.b ?_)
        refine ⟨n - 1, by omega, i + 1, withE c t.k v, by omega, by simp [h1], by simp, by simp [h3], ?_, by simp, by simp; omega, by rw [withE_len]; omega, withE_ok hco hrv1, by rw [hm, hmd]⟩
        simp [St.get_push, St.get_put, hs0, m0]
      | some u =>
        rw [hv] at hmd
        simp only at hmd
        have hsm := Q10_same u v (valT_ok hco hat1 hv) hrv1
        cases hs : (cmpV u v == 0) with
        | true =>
          rw [hs] at hmd hsm
          repeat' (first
            | refine WP.t ?_ | refine WP.k ?_ | refine WP.e ?_ | refine Qn ?_ | refine Qr ?_ | refine Qe ?_ | refine Bn ?_ | refine Br ?_ | refine Be ?_ | refine Bx (by decide) ?_
            | (refine RS.nl ?_; refine hk _ _ ?_; clear hk k)
            | ((first | refine RS.st fun A B hA hB => ?_ | refine RQ.st fun A B hA hB => ?_); simp [hsm, Q11, Fns.addN, nrm, nrm0, h1, h2, h3, h8, hs0, hnx, m0, l0, hlt, hi, hi2, ha, hb, hat, hrv, hw, huT, huP, huV, hcl2, hcl3, hv, tupV_some, Tm.cs, V.cs, onW_t, onW_f, onV_s]; first | ((first | refine hA _ _ _ ?_ ?_ | refine hA _ _ _ ?_ (by first | exact .inl rfl | exact .inr (by decide)) ?_); (focus (simp [hsm, Q11, Fns.addN, nrm, nrm0, h1, h2, h3, h8, hs0, hnx, m0, l0, hlt, hi, hi2, ha, hb, hat, hrv, hw, huT, huP, huV, hcl2, hcl3, hv, tupV_some, Tm.cs, V.cs] <;> omega)); clear hA hB A B) | (refine hB ?_; clear hA hB A B) | (refine onV_if ?_ ?_; (focus (first | omega | (refine ⟨?_, ?_⟩ <;> omega))); simp only [onV_s]; (first | refine hA _ _ _ ?_ ?_ | refine hA _ _ _ ?_ (by first | exact .inl rfl | exact .inr (by decide)) ?_); (focus (simp [hsm, Q11, Fns.addN, nrm, nrm0, h1, h2, h3, h8, hs0, hnx, m0, l0, hlt, hi, hi2, ha, hb, hat, hrv, hw, huT, huP, huV, hcl2, hcl3, hv, tupV_some, Tm.cs, V.cs] <;> omega)); clear hA hB A B))
            | (refine RQ.nl ?_; refine hk _ _ ?_; clear hk k)
            | refine WP.sr fun k hk => ?_ | refine WP.r fun k hk => ?_
            | refine WP.sd _ rfl fun k hk => ?_ | refine WP.d _ rfl fun k hk => ?_
            | (refine WP.cc fun A B hA hB => ?_; simp [hsm, Q11, Fns.addN, nrm, nrm0, h1, h2, h3, h8, hs0, hnx, m0, l0, hlt, hi, hi2, ha, hb, hat, hrv, hw, huT, huP, huV, hcl2, hcl3, hv, tupV_some, Tm.cs, V.cs, onB_t, onB_f]; first | (refine hA ?_; clear hA hB A B) | (refine hB ?_; clear hA hB A B) | (refine onB_if (fun h => hA ?_) (fun h => hB ?_) <;> clear hA hB A B))
            | refine WP.q ?_ | refine WP.b ?_)
          refine ⟨n - 1, by omega, i + 1, c, by omega, by simp [h1], by simp [h2], by simp [h3], ?_, by simp, by simp; omega, by omega, hco, by rw [hm, hmd]; rfl⟩
          simp [St.get_push, St.get_put, hs0, m0]
        | false =>
          rw [hs] at hmd hsm
          repeat' (first
            | refine WP.t ?_ | refine WP.k ?_ | refine WP.e ?_ | refine Qn ?_ | refine Qr ?_ | refine Qe ?_ | refine Bn ?_ | refine Br ?_ | refine Be ?_ | refine Bx (by decide) ?_
            | (refine RS.nl ?_; refine hk _ _ ?_; clear hk k)
            | ((first | refine RS.st fun A B hA hB => ?_ | refine RQ.st fun A B hA hB => ?_); simp [hsm, Q11, Fns.addN, nrm, nrm0, h1, h2, h3, h8, hs0, hnx, m0, l0, hlt, hi, hi2, ha, hb, hat, hrv, hw, huT, huP, huV, hcl2, hcl3, hv, tupV_some, Tm.cs, V.cs, onW_t, onW_f, onV_s]; first | ((first | refine hA _ _ _ ?_ ?_ | refine hA _ _ _ ?_ (by first | exact .inl rfl | exact .inr (by decide)) ?_); (focus (simp [hsm, Q11, Fns.addN, nrm, nrm0, h1, h2, h3, h8, hs0, hnx, m0, l0, hlt, hi, hi2, ha, hb, hat, hrv, hw, huT, huP, huV, hcl2, hcl3, hv, tupV_some, Tm.cs, V.cs] <;> omega)); clear hA hB A B) | (refine hB ?_; clear hA hB A B) | (refine onV_if ?_ ?_; (focus (first | omega | (refine ⟨?_, ?_⟩ <;> omega))); simp only [onV_s]; (first | refine hA _ _ _ ?_ ?_ | refine hA _ _ _ ?_ (by first | exact .inl rfl | exact .inr (by decide)) ?_); (focus (simp [hsm, Q11, Fns.addN, nrm, nrm0, h1, h2, h3, h8, hs0, hnx, m0, l0, hlt, hi, hi2, ha, hb, hat, hrv, hw, huT, huP, huV, hcl2, hcl3, hv, tupV_some, Tm.cs, V.cs] <;> omega)); clear hA hB A B))
            | (refine RQ.nl ?_; refine hk _ _ ?_; clear hk k)
            | refine WP.sr fun k hk => ?_ | refine WP.r fun k hk => ?_
            | refine WP.sd _ rfl fun k hk => ?_ | refine WP.d _ rfl fun k hk => ?_
            | (refine WP.cc fun A B hA hB => ?_; simp [hsm, Q11, Fns.addN, nrm, nrm0, h1, h2, h3, h8, hs0, hnx, m0, l0, hlt, hi, hi2, ha, hb, hat, hrv, hw, huT, huP, huV, hcl2, hcl3, hv, tupV_some, Tm.cs, V.cs, onB_t, onB_f]; first | (refine hA ?_; clear hA hB A B) | (refine hB ?_; clear hA hB A B) | (refine onB_if (fun h => hA ?_) (fun h => hB ?_) <;> clear hA hB A B))
            | refine WP.q ?_ | refine WP.b ?_)
          rw [hm, hmd]
          exact ⟨.inr rfl, .tup [.nsl, .bool false], by simp, frz_tup2 .nil (.same _ (by simp))⟩
    · have hlt : ¬ ((i : Int) < (r.length : Int)) := by omega
      have hm2 : matchE a r e = some c := by
        rw [hm, List.drop_eq_nil_of_le (by omega), List.drop_eq_nil_of_le (by omega)]; rfl
      repeat' (first
        | refine WP.t ?_ | refine WP.k ?_ | refine WP.e ?_ | refine Qn ?_ | refine Qr ?_ | refine Qe ?_ | refine Bn ?_ | refine Br ?_ | refine Be ?_ | refine Bx (by decide) ?_
        | (refine RS.nl ?_; refine hk _ _ ?_; clear hk k)
        | ((first | refine RS.st fun A B hA hB => ?_ | refine RQ.st fun A B hA hB => ?_); simp [h1, h2, h3, h8, hlt, onW_t, onW_f, onV_s]; first | ((first | refine hA _ _ _ ?_ ?_ | refine hA _ _ _ ?_ (by first | exact .inl rfl | exact .inr (by decide)) ?_); (focus (simp [h1, h2, h3, h8, hlt] <;> omega)); clear hA hB A B) | (refine hB ?_; clear hA hB A B) | (refine onV_if ?_ ?_; (focus (first | omega | (refine ⟨?_, ?_⟩ <;> omega))); simp only [onV_s]; (first | refine hA _ _ _ ?_ ?_ | refine hA _ _ _ ?_ (by first | exact .inl rfl | exact .inr (by decide)) ?_); (focus (simp [h1, h2, h3, h8, hlt] <;> omega)); clear hA hB A B))
        | (refine RQ.nl ?_; refine hk _ _ ?_; clear hk k)
        | refine WP.sr fun k hk => ?_ | refine WP.r fun k hk => ?_
        | refine WP.sd _ rfl fun k hk => ?_ | refine WP.d _ rfl fun k hk => ?_
        | (refine WP.cc fun A B hA hB => ?_; simp [h1, h2, h3, h8, hlt, onB_t, onB_f]; first | (refine hA ?_; clear hA hB A B) | (refine hB ?_; clear hA hB A B) | (refine onB_if (fun h => hA ?_) (fun h => hB ?_) <;> clear hA hB A B))
        | refine WP.q ?_ | refine WP.b ?_)
      rw [hm2]
      exact ⟨.inr rfl, .tup [.sl (c.map Pr.cs), .bool true], by simp [h2], frz_tup2 (.same _ (below_E _ _)) (.same _ (by simp))⟩
  · have hnb : (((a.length : Nat) : Int) != ((r.length : Nat) : Int)) = true := by
      rw [bne_iff_ne]; omega
    repeat' (first
      | refine WP.t ?_ | refine WP.k ?_ | refine WP.e ?_ | refine Qn ?_ | refine Qr ?_ | refine Qe ?_ | refine Bn ?_ | refine Br ?_ | refine Be ?_ | refine Bx (by decide) ?_
      | (refine RS.nl ?_; refine hk _ _ ?_; clear hk k)
      | ((first | refine RS.st fun A B hA hB => ?_ | refine RQ.st fun A B hA hB => ?_); simp [Atm.cs, hnb, onW_t, onW_f, onV_s]; first | ((first | refine hA _ _ _ ?_ ?_ | refine hA _ _ _ ?_ (by first | exact .inl rfl | exact .inr (by decide)) ?_); (focus (simp [Atm.cs, hnb] <;> omega)); clear hA hB A B) | (refine hB ?_; clear hA hB A B) | (refine onV_if ?_ ?_; (focus (first | omega | (refine ⟨?_, ?_⟩ <;> omega))); simp only [onV_s]; (first | refine hA _ _ _ ?_ ?_ | refine hA _ _ _ ?_ (by first | exact .inl rfl | exact .inr (by decide)) ?_); (focus (simp [Atm.cs, hnb] <;> omega)); clear hA hB A B))
      | (refine RQ.nl ?_; refine hk _ _ ?_; clear hk k)
      | refine WP.sr fun k hk => ?_ | refine WP.r fun k hk => ?_
      | refine WP.sd _ rfl fun k hk => ?_ | refine WP.d _ rfl fun k hk => ?_
      | (refine WP.cc fun A B hA hB => ?_; simp [Atm.cs, hnb, onB_t, onB_f]; first | (refine hA ?_; clear hA hB A B) | (refine hB ?_; clear hA hB A B) | (refine onB_if (fun h => hA ?_) (fun h => hB ?_) <;> clear hA hB A B))
      | refine WP.q ?_ | refine WP.b ?_)
    rw [matchE_ne hne]
    exact ⟨.inr rfl, .tup [.nsl, .bool false], by simp, frz_tup2 .nil (.same _ (by simp))⟩
noncomputable def Q12 : Fns := Q11.addN 42 fun xs => match xs with
  | [.agg c, .sl d, .sl g] => match cAtm.un c, unL cV d, unL cPr g with
    | some t, some r, some e => if e.length + t.a.length < 268435456 ∧ r.length < 268435456 ∧ (r.all fun v => decide (v.s.length < LIM)) = true ∧ okE e = true ∧ okTms t.a = true then some (tupE (matchE t.a r e)) else none
    | _, _, _ => none
  | _ => none
theorem Q12_ok : FOk (env K gw) Q12 := by
  refine Q11_ok.addN fun xs s r h => ?_
  split at h
  · split at h
    · rename_i hc hd hg
      split at h
      · rename_i hl
        cases h
        rw [cAtm.cs_un _ _ hc, unL_eq cV _ _ hd, unL_eq cPr _ _ hg]
        exact ft_RMatch _ _ _ hl.1 hl.2.1 (by simpa using hl.2.2.1) hl.2.2.2.1 (okTms_iff.1 hl.2.2.2.2)
      · cases h
    · cases h
  · cases h
end
end Go.Am
namespace Go.Am
open Go.Proofs
section
variable {K : Nat} {gw : World} {s : St}
attribute [local simp] awanted xop zOf cz zrow aop ev T0 Slots.put Slots.set Slots.get awr WOk AV.may ofConst abinop aint isConst St.get_push St.get_put St.live AV.fit AV.cells AV.one fieldOf afieldAddr aload ofCells astore splice May eqres env_ti FinP FinZ FinW ares aresL ares1 Fns.addP Fns.add Fns.a0 Fns.a1 Fns.a2 Fns.a3 Fns.a4 abuiltin alenOk alen aindex elemOfT elemId abuildSlice afill chunks ard aappend isSS AV.isStr aminmax placesOf abuild afield aidx isStrD isStrDesc astrop aslice asliceOk abound arange anext aextract aunop aeq AV.ck avseq aveq aconv aconvert onB_t onB_f List.range_succ
theorem big32 {n : Nat} (h : n ≤ 268435460) : n * 32 ≤ 140737488355328 := Nat.le_trans (Nat.mul_le_mul_right 32 h) (by decide)
set_option maxHeartbeats 1000000 in
theorem ft_RGround (t : Atm) (e : Envr) (hl : t.a.length < 268435456) (hel : e.length < LIM) : FT (env K gw) NoW 23 [.agg t.cs, .sl (e.map Pr.cs)] s (tupR (groundE e t.a)) s := by
  obtain ⟨p, a⟩ := t
  simp only at hl
  refine FT.data (fn := Tryz.f23) Q11_ok mixed Tryz.func23 (by kernel_rfl) (by rfl) rfl rfl (by simp) rfl fun μ w => ?_
  repeat' (first
    | refine WP.t ?_ | refine WP.k ?_ | refine WP.e ?_ | refine Qn ?_ | refine Qr ?_ | refine Qe ?_ | refine Bn ?_ | refine Br ?_ | refine Be ?_ | refine Bx (by decide) ?_
    | (refine RS.nl ?_; refine hk _ _ ?_; clear hk k)
    | ((first | refine RS.st fun A B hA hB => ?_ | refine RQ.st fun A B hA hB => ?_); simp [Atm.cs, onW_t, onW_f, onV_s]; first | ((first | refine hA _ _ _ ?_ ?_ | refine hA _ _ _ ?_ (by first | exact .inl rfl | exact .inr (by decide)) ?_); (focus (simp [Atm.cs] <;> omega)); clear hA hB A B) | (refine hB ?_; clear hA hB A B) | (refine onV_if ?_ ?_; (focus (first | omega | (refine ⟨?_, ?_⟩ <;> omega))); simp only [onV_s]; (first | refine hA _ _ _ ?_ ?_ | refine hA _ _ _ ?_ (by first | exact .inl rfl | exact .inr (by decide)) ?_); (focus (simp [Atm.cs] <;> omega)); clear hA hB A B))
    | (refine RQ.nl ?_; refine hk _ _ ?_; clear hk k)
    | refine WP.sr fun k hk => ?_ | refine WP.r fun k hk => ?_
    | refine WP.sd _ rfl fun k hk => ?_ | refine WP.d _ rfl fun k hk => ?_
    | (refine WP.cc fun A B hA hB => ?_; simp [Atm.cs, onB_t, onB_f]; first | (refine hA ?_; clear hA hB A B) | (refine hB ?_; clear hA hB A B) | (refine onB_if (fun h => hA ?_) (fun h => hB ?_) <;> clear hA hB A B))
    | refine WP.q ?_ | refine WP.b ?_)
  refine WP_loop (fun n T s' => ∃ (i : Nat) (acc : List V), n + i = a.length ∧ T.get 1 = .sl (e.map Pr.cs) ∧ T.get 2 = .ptr s.nx 0 ∧ s'.get s.nx = some (.var 37 [.str p, .sl (a.map Tm.cs)]) ∧ T.get 7 = .int .i64 i ∧ s.nx < s'.nx ∧ acc.length = i ∧ groundE e a = (groundE e (a.drop i)).map (acc ++ ·) ∧
    ((acc = [] ∧ T.get 6 = .nsl) ∨ (acc ≠ [] ∧ ∃ q, s.nx < q ∧ q < s'.nx ∧ T.get 6 = .ls q 0 acc.length ∧ s'.get q = some (.row 3 (true, 42) (acc.map V.cs))))) a.length
    ⟨0, [], by simp, by simp, by simp, by simp [St.get_push], by simp, by simp, rfl, by simp, .inl ⟨rfl, by simp⟩⟩ ?_
  rintro n T s' ⟨i, acc, hn, h1, h2, hs0, h7, hnx, hal, hm, hB⟩
  have m0 : ¬ s.nx = s'.nx := by omega
  have m1 : ¬ s.nx = s'.nx + 1 := by omega
  have l1 : s.nx < s'.nx + 1 := by omega
  by_cases hi : i < a.length
  · have hw : IntKind.i64.wrap ((i : Int) + 1) = (i : Int) + 1 := wrap64 (by omega) (by omega)
    have hlt : ((i : Int) < (a.length : Int)) := by omega
    have ha : a[i]? = some a[i] := List.getElem?_eq_getElem hi
    have hmd := groundE_drop (e := e) hi
    have huT := fun (t : Tm) => show cTm.un [.bool t.b, .str t.k, .bool t.v.b, .str t.v.s, .int .i64 t.v.n] = some t from rfl
    have huP := unL_Pr e
    generalize hat : a[i] = t at *
    cases hv : valT t e with
    | none =>
      rw [hv] at hmd
      repeat' (first
        | refine WP.t ?_ | refine WP.k ?_ | refine WP.e ?_ | refine Qn ?_ | refine Qr ?_ | refine Qe ?_ | refine Bn ?_ | refine Br ?_ | refine Be ?_ | refine Bx (by decide) ?_
        | (refine RS.nl ?_; refine hk _ _ ?_; clear hk k)
        | ((first | refine RS.st fun A B hA hB => ?_ | refine RQ.st fun A B hA hB => ?_); simp [Q11, Fns.addN, nrm, nrm0, h1, h2, h7, hs0, hnx, m0, m1, l1, hlt, hi, ha, hat, hw, huT, huP, hel, hv, tupV_none, Q10, Tm.cs, V.cs, onW_t, onW_f, onV_s]; first | ((first | refine hA _ _ _ ?_ ?_ | refine hA _ _ _ ?_ (by first | exact .inl rfl | exact .inr (by decide)) ?_); (focus (simp [Q11, Fns.addN, nrm, nrm0, h1, h2, h7, hs0, hnx, m0, m1, l1, hlt, hi, ha, hat, hw, huT, huP, hel, hv, tupV_none, Q10, Tm.cs, V.cs] <;> omega)); clear hA hB A B) | (refine hB ?_; clear hA hB A B) | (refine onV_if ?_ ?_; (focus (first | omega | (refine ⟨?_, ?_⟩ <;> omega))); simp only [onV_s]; (first | refine hA _ _ _ ?_ ?_ | refine hA _ _ _ ?_ (by first | exact .inl rfl | exact .inr (by decide)) ?_); (focus (simp [Q11, Fns.addN, nrm, nrm0, h1, h2, h7, hs0, hnx, m0, m1, l1, hlt, hi, ha, hat, hw, huT, huP, hel, hv, tupV_none, Q10, Tm.cs, V.cs] <;> omega)); clear hA hB A B))
        | (refine RQ.nl ?_; refine hk _ _ ?_; clear hk k)
        | refine WP.sr fun k hk => ?_ | refine WP.r fun k hk => ?_
        | refine WP.sd _ rfl fun k hk => ?_ | refine WP.d _ rfl fun k hk => ?_
        | (refine WP.cc fun A B hA hB => ?_; simp [Q11, Fns.addN, nrm, nrm0, h1, h2, h7, hs0, hnx, m0, m1, l1, hlt, hi, ha, hat, hw, huT, huP, hel, hv, tupV_none, Q10, Tm.cs, V.cs, onB_t, onB_f]; first | (refine hA ?_; clear hA hB A B) | (refine hB ?_; clear hA hB A B) | (refine onB_if (fun h => hA ?_) (fun h => hB ?_) <;> clear hA hB A B))
        | refine WP.q ?_ | refine WP.b ?_)
      rw [hm, hmd]
      exact ⟨.inr rfl, .tup [.nsl, .bool false], by simp, frz_tup2 .nil (.same _ (by simp))⟩
    | some u =>
      rw [hv] at hmd
      have hne : ∀ acc : List V, acc ++ [u] ≠ [] := by simp
      rcases hB with ⟨rfl, h6⟩ | ⟨hne0, q, hq1, hq2, h6, hqr⟩
      · skip
        repeat' (first
          | refine WP.t ?_ | refine WP.k ?_ | refine WP.e ?_ | refine Qn ?_ | refine Qr ?_ | refine Qe ?_ | refine Bn ?_ | refine Br ?_ | refine Be ?_ | refine Bx (by decide) ?_
          | (refine RS.nl ?_; refine hk _ _ ?_; clear hk k)
          | ((first | refine RS.st fun A B hA hB => ?_ | refine RQ.st fun A B hA hB => ?_); simp [Q11, Fns.addN, nrm, nrm0, h1, h2, h6, h7, hs0, hnx, m0, m1, l1, hlt, hi, ha, hat, hw, huT, huP, hel, hv, tupV_some, Q10, Tm.cs, V.cs, onW_t, onW_f, onV_s]; first | ((first | refine hA _ _ _ ?_ ?_ | refine hA _ _ _ ?_ (by first | exact .inl rfl | exact .inr (by decide)) ?_); (focus (simp [Q11, Fns.addN, nrm, nrm0, h1, h2, h6, h7, hs0, hnx, m0, m1, l1, hlt, hi, ha, hat, hw, huT, huP, hel, hv, tupV_some, Q10, Tm.cs, V.cs] <;> omega)); clear hA hB A B) | (refine hB ?_; clear hA hB A B) | (refine onV_if ?_ ?_; (focus (first | omega | (refine ⟨?_, ?_⟩ <;> omega))); simp only [onV_s]; (first | refine hA _ _ _ ?_ ?_ | refine hA _ _ _ ?_ (by first | exact .inl rfl | exact .inr (by decide)) ?_); (focus (simp [Q11, Fns.addN, nrm, nrm0, h1, h2, h6, h7, hs0, hnx, m0, m1, l1, hlt, hi, ha, hat, hw, huT, huP, hel, hv, tupV_some, Q10, Tm.cs, V.cs] <;> omega)); clear hA hB A B))
          | (refine RQ.nl ?_; refine hk _ _ ?_; clear hk k)
          | refine WP.sr fun k hk => ?_ | refine WP.r fun k hk => ?_
          | refine WP.sd _ rfl fun k hk => ?_ | refine WP.d _ rfl fun k hk => ?_
          | (refine WP.cc fun A B hA hB => ?_; simp [Q11, Fns.addN, nrm, nrm0, h1, h2, h6, h7, hs0, hnx, m0, m1, l1, hlt, hi, ha, hat, hw, huT, huP, hel, hv, tupV_some, Q10, Tm.cs, V.cs, onB_t, onB_f]; first | (refine hA ?_; clear hA hB A B) | (refine hB ?_; clear hA hB A B) | (refine onB_if (fun h => hA ?_) (fun h => hB ?_) <;> clear hA hB A B))
          | refine WP.q ?_ | refine WP.b ?_)
        refine ⟨n - 1, by omega, i + 1, [u], by omega, by simp [h1], by simp [h2], ?_, by simp, by simp; omega, by simp at hal ⊢; omega, ?_, .inr ⟨by simp, s'.nx + 1, by omega, by simp, by simp, by simp [St.get_push, V.cs]⟩⟩
        · simp [St.get_push, St.get_put, hs0, m0, m1]
        · rw [hm, hmd]
          simp [Option.map_map, Function.comp_def]
      · have e0 : ¬ q = s'.nx := by omega
        have e1 : ¬ q = s'.nx + 1 := by omega
        have e4 : ¬ s.nx = q := by omega
        have l0 : q < s'.nx + 1 := by omega
        have l2 : q < s'.nx + 1 + 1 := by omega
        have htl : List.take acc.length (acc.map V.cs) = acc.map V.cs := List.take_of_length_le (by simp)
        have hby : (acc.length + 1) * 32 ≤ 140737488355328 := big32 (by omega)
        repeat' (first
          | refine WP.t ?_ | refine WP.k ?_ | refine WP.e ?_ | refine Qn ?_ | refine Qr ?_ | refine Qe ?_ | refine Bn ?_ | refine Br ?_ | refine Be ?_ | refine Bx (by decide) ?_
          | (refine RS.nl ?_; refine hk _ _ ?_; clear hk k)
          | ((first | refine RS.st fun A B hA hB => ?_ | refine RQ.st fun A B hA hB => ?_); simp [Q11, Fns.addN, nrm, nrm0, h1, h2, h6, h7, hs0, hnx, m0, m1, l1, hlt, hi, ha, hat, hw, huT, huP, hel, hv, tupV_some, Q10, Tm.cs, V.cs, hqr, e0, e1, e4, l0, l2, htl, hby, onW_t, onW_f, onV_s]; first | ((first | refine hA _ _ _ ?_ ?_ | refine hA _ _ _ ?_ (by first | exact .inl rfl | exact .inr (by decide)) ?_); (focus (simp [Q11, Fns.addN, nrm, nrm0, h1, h2, h6, h7, hs0, hnx, m0, m1, l1, hlt, hi, ha, hat, hw, huT, huP, hel, hv, tupV_some, Q10, Tm.cs, V.cs, hqr, e0, e1, e4, l0, l2, htl, hby] <;> omega)); clear hA hB A B) | (refine hB ?_; clear hA hB A B) | (refine onV_if ?_ ?_; (focus (first | omega | (refine ⟨?_, ?_⟩ <;> omega))); simp only [onV_s]; (first | refine hA _ _ _ ?_ ?_ | refine hA _ _ _ ?_ (by first | exact .inl rfl | exact .inr (by decide)) ?_); (focus (simp [Q11, Fns.addN, nrm, nrm0, h1, h2, h6, h7, hs0, hnx, m0, m1, l1, hlt, hi, ha, hat, hw, huT, huP, hel, hv, tupV_some, Q10, Tm.cs, V.cs, hqr, e0, e1, e4, l0, l2, htl, hby] <;> omega)); clear hA hB A B))
          | (refine RQ.nl ?_; refine hk _ _ ?_; clear hk k)
          | refine WP.sr fun k hk => ?_ | refine WP.r fun k hk => ?_
          | refine WP.sd _ rfl fun k hk => ?_ | refine WP.d _ rfl fun k hk => ?_
          | (refine WP.cc fun A B hA hB => ?_; simp [Q11, Fns.addN, nrm, nrm0, h1, h2, h6, h7, hs0, hnx, m0, m1, l1, hlt, hi, ha, hat, hw, huT, huP, hel, hv, tupV_some, Q10, Tm.cs, V.cs, hqr, e0, e1, e4, l0, l2, htl, hby, onB_t, onB_f]; first | (refine hA ?_; clear hA hB A B) | (refine hB ?_; clear hA hB A B) | (refine onB_if (fun h => hA ?_) (fun h => hB ?_) <;> clear hA hB A B))
          | refine WP.q ?_ | refine WP.b ?_)
        refine ⟨n - 1, by omega, i + 1, acc ++ [u], by omega, by simp [h1], by simp [h2], ?_, by simp, by simp; omega, by simp; omega, ?_, .inr ⟨by simp, s'.nx + 1, by omega, by simp, by simp, by simp [St.get_push, V.cs]⟩⟩
        · simp [St.get_push, St.get_put, St.get_drop, hs0, m0, m1, e4]
        · rw [hm, hmd]
          simp [Option.map_map, Function.comp_def]
  · have hlt : ¬ ((i : Int) < (a.length : Int)) := by omega
    have hm2 : groundE e a = some acc := by
      rw [hm, List.drop_eq_nil_of_le (by omega)]; simp [groundE]
    repeat' (first
      | refine WP.t ?_ | refine WP.k ?_ | refine WP.e ?_ | refine Qn ?_ | refine Qr ?_ | refine Qe ?_ | refine Bn ?_ | refine Br ?_ | refine Be ?_ | refine Bx (by decide) ?_
      | (refine RS.nl ?_; refine hk _ _ ?_; clear hk k)
      | ((first | refine RS.st fun A B hA hB => ?_ | refine RQ.st fun A B hA hB => ?_); simp [h1, h2, h7, hs0, hnx, m0, m1, l1, hlt, onW_t, onW_f, onV_s]; first | ((first | refine hA _ _ _ ?_ ?_ | refine hA _ _ _ ?_ (by first | exact .inl rfl | exact .inr (by decide)) ?_); (focus (simp [h1, h2, h7, hs0, hnx, m0, m1, l1, hlt] <;> omega)); clear hA hB A B) | (refine hB ?_; clear hA hB A B) | (refine onV_if ?_ ?_; (focus (first | omega | (refine ⟨?_, ?_⟩ <;> omega))); simp only [onV_s]; (first | refine hA _ _ _ ?_ ?_ | refine hA _ _ _ ?_ (by first | exact .inl rfl | exact .inr (by decide)) ?_); (focus (simp [h1, h2, h7, hs0, hnx, m0, m1, l1, hlt] <;> omega)); clear hA hB A B))
      | (refine RQ.nl ?_; refine hk _ _ ?_; clear hk k)
      | refine WP.sr fun k hk => ?_ | refine WP.r fun k hk => ?_
      | refine WP.sd _ rfl fun k hk => ?_ | refine WP.d _ rfl fun k hk => ?_
      | (refine WP.cc fun A B hA hB => ?_; simp [h1, h2, h7, hs0, hnx, m0, m1, l1, hlt, onB_t, onB_f]; first | (refine hA ?_; clear hA hB A B) | (refine hB ?_; clear hA hB A B) | (refine onB_if (fun h => hA ?_) (fun h => hB ?_) <;> clear hA hB A B))
      | refine WP.q ?_ | refine WP.b ?_)
    rw [hm2]
    rcases hB with ⟨rfl, h6⟩ | ⟨hne0, q, hq1, hq2, h6, hqr⟩
    · exact ⟨.inr rfl, .tup [.nsl, .bool true], by simp [h6], frz_tup2 .nil (.same _ (by simp))⟩
    · exact ⟨.inr rfl, .tup [.ls q 0 acc.length, .bool true], by simp [h6], frz_tup2 (frz_sl cV hqr (by omega) rfl) (.same _ (by simp))⟩
theorem Q11_holds (op : Str) (v u : V) (hv : v.s.length < LIM) (hu : u.s.length < LIM) (s2 : St) : Q11 95 [.str op, .agg [.bool v.b, .str v.s, .int .i64 v.n], .agg [.bool u.b, .str u.s, .int .i64 u.n]] s2 = some (.tup [.bool (opH op (cmpV v u)).1, .bool (opH op (cmpV v u)).2], s2, []) := by
  have h1 : (vAgg cV).dec (.agg [.bool v.b, .str v.s, .int .i64 v.n]) = some v := (vAgg cV).dec_enc v
  have h2 : (vAgg cV).dec (.agg [.bool u.b, .str u.s, .int .i64 u.n]) = some u := (vAgg cV).dec_enc u
  simp [Q11, Fns.addN, nrm, Q10, Q9, Q8, Q7, Q6, Q5, Q4, vStr, h1, h2, hv, hu]
set_option maxHeartbeats 1000000 in
theorem ft_RHolds (l : Lit) (e : Envr) (hel : e.length < LIM) (heo : okE e = true) (hl1 : l.l.v.s.length < LIM) (hl2 : l.r.v.s.length < LIM) : FT (env K gw) NoW 72 [.agg l.cs, .sl (e.map Pr.cs)] s (.tup [.bool (holdsE l e).1, .bool (holdsE l e).2]) s := by
  obtain ⟨kd, ⟨p, a⟩, op, t1, t2⟩ := l
  simp only at hl1 hl2
  have huT := fun (t : Tm) => show cTm.un [.bool t.b, .str t.k, .bool t.v.b, .str t.v.s, .int .i64 t.v.n] = some t from rfl
  have huV := fun (v : V) => show cV.un [.bool v.b, .str v.s, .int .i64 v.n] = some v from rfl
  have huP := unL_Pr e
  have hd : holdsE ⟨kd, ⟨p, a⟩, op, t1, t2⟩ e = match valT t1 e, valT t2 e with
    | some a, some b => if kd = 3 then opH op (cmpV a b) else (false, false)
    | _, _ => (false, false) := rfl
  refine FT.pure (fn := Tryz.f72) Q11_ok mixed Tryz.func72 (by kernel_rfl) (by rfl) rfl rfl (by simp) rfl fun μ w => ?_
  cases hv1 : valT t1 e with
  | none =>
    rw [hv1] at hd
    cases hv2 : valT t2 e with
    | none =>
      rw [hd]
      rcases Bool.eq_false_or_eq_true (kd != 3) with hk0 | hk0
      all_goals
        repeat' (first
          | refine WP.t ?_ | refine WP.k ?_ | refine WP.e ?_ | refine Qn ?_ | refine Qr ?_ | refine Qe ?_ | refine Bn ?_ | refine Br ?_ | refine Be ?_ | refine Bx (by decide) ?_
          | (refine RS.nl ?_; refine hk _ _ ?_; clear hk k)
          | ((first | refine RS.st fun A B hA hB => ?_ | refine RQ.st fun A B hA hB => ?_); simp [Q11, Fns.addN, nrm, nrm0, huT, huP, hel, hv1, hv2, hk0, tupV_none, tupV_some, Lit.cs, V.cs, onW_t, onW_f, onV_s]; first | ((first | refine hA _ _ _ ?_ ?_ | refine hA _ _ _ ?_ (by first | exact .inl rfl | exact .inr (by decide)) ?_); (focus (simp [Q11, Fns.addN, nrm, nrm0, huT, huP, hel, hv1, hv2, hk0, tupV_none, tupV_some, Lit.cs, V.cs] <;> omega)); clear hA hB A B) | (refine hB ?_; clear hA hB A B) | (refine onV_if ?_ ?_; (focus (first | omega | (refine ⟨?_, ?_⟩ <;> omega))); simp only [onV_s]; (first | refine hA _ _ _ ?_ ?_ | refine hA _ _ _ ?_ (by first | exact .inl rfl | exact .inr (by decide)) ?_); (focus (simp [Q11, Fns.addN, nrm, nrm0, huT, huP, hel, hv1, hv2, hk0, tupV_none, tupV_some, Lit.cs, V.cs] <;> omega)); clear hA hB A B))
          | (refine RQ.nl ?_; refine hk _ _ ?_; clear hk k)
          | refine WP.sr fun k hk => ?_ | refine WP.r fun k hk => ?_
          | refine WP.sd _ rfl fun k hk => ?_ | refine WP.d _ rfl fun k hk => ?_
          | (refine WP.cc fun A B hA hB => ?_; simp [Q11, Fns.addN, nrm, nrm0, huT, huP, hel, hv1, hv2, hk0, tupV_none, tupV_some, Lit.cs, V.cs, onB_t, onB_f]; first | (refine hA ?_; clear hA hB A B) | (refine hB ?_; clear hA hB A B) | (refine onB_if (fun h => hA ?_) (fun h => hB ?_) <;> clear hA hB A B))
          | refine WP.q ?_ | refine WP.b ?_)
        simp
    | some u2 =>
      rw [hd]
      rcases Bool.eq_false_or_eq_true (kd != 3) with hk0 | hk0
      all_goals
        repeat' (first
          | refine WP.t ?_ | refine WP.k ?_ | refine WP.e ?_ | refine Qn ?_ | refine Qr ?_ | refine Qe ?_ | refine Bn ?_ | refine Br ?_ | refine Be ?_ | refine Bx (by decide) ?_
          | (refine RS.nl ?_; refine hk _ _ ?_; clear hk k)
          | ((first | refine RS.st fun A B hA hB => ?_ | refine RQ.st fun A B hA hB => ?_); simp [Q11, Fns.addN, nrm, nrm0, huT, huP, hel, hv1, hv2, hk0, tupV_none, tupV_some, Lit.cs, V.cs, onW_t, onW_f, onV_s]; first | ((first | refine hA _ _ _ ?_ ?_ | refine hA _ _ _ ?_ (by first | exact .inl rfl | exact .inr (by decide)) ?_); (focus (simp [Q11, Fns.addN, nrm, nrm0, huT, huP, hel, hv1, hv2, hk0, tupV_none, tupV_some, Lit.cs, V.cs] <;> omega)); clear hA hB A B) | (refine hB ?_; clear hA hB A B) | (refine onV_if ?_ ?_; (focus (first | omega | (refine ⟨?_, ?_⟩ <;> omega))); simp only [onV_s]; (first | refine hA _ _ _ ?_ ?_ | refine hA _ _ _ ?_ (by first | exact .inl rfl | exact .inr (by decide)) ?_); (focus (simp [Q11, Fns.addN, nrm, nrm0, huT, huP, hel, hv1, hv2, hk0, tupV_none, tupV_some, Lit.cs, V.cs] <;> omega)); clear hA hB A B))
          | (refine RQ.nl ?_; refine hk _ _ ?_; clear hk k)
          | refine WP.sr fun k hk => ?_ | refine WP.r fun k hk => ?_
          | refine WP.sd _ rfl fun k hk => ?_ | refine WP.d _ rfl fun k hk => ?_
          | (refine WP.cc fun A B hA hB => ?_; simp [Q11, Fns.addN, nrm, nrm0, huT, huP, hel, hv1, hv2, hk0, tupV_none, tupV_some, Lit.cs, V.cs, onB_t, onB_f]; first | (refine hA ?_; clear hA hB A B) | (refine hB ?_; clear hA hB A B) | (refine onB_if (fun h => hA ?_) (fun h => hB ?_) <;> clear hA hB A B))
          | refine WP.q ?_ | refine WP.b ?_)
        simp
  | some u1 =>
    rw [hv1] at hd
    have hu1 := valT_ok heo hl1 hv1
    cases hv2 : valT t2 e with
    | none =>
      rw [hv2] at hd
      rw [hd]
      rcases Bool.eq_false_or_eq_true (kd != 3) with hk0 | hk0
      all_goals
        repeat' (first
          | refine WP.t ?_ | refine WP.k ?_ | refine WP.e ?_ | refine Qn ?_ | refine Qr ?_ | refine Qe ?_ | refine Bn ?_ | refine Br ?_ | refine Be ?_ | refine Bx (by decide) ?_
          | (refine RS.nl ?_; refine hk _ _ ?_; clear hk k)
          | ((first | refine RS.st fun A B hA hB => ?_ | refine RQ.st fun A B hA hB => ?_); simp [Q11, Fns.addN, nrm, nrm0, huT, huP, hel, hv1, hv2, hk0, tupV_none, tupV_some, Lit.cs, V.cs, onW_t, onW_f, onV_s]; first | ((first | refine hA _ _ _ ?_ ?_ | refine hA _ _ _ ?_ (by first | exact .inl rfl | exact .inr (by decide)) ?_); (focus (simp [Q11, Fns.addN, nrm, nrm0, huT, huP, hel, hv1, hv2, hk0, tupV_none, tupV_some, Lit.cs, V.cs] <;> omega)); clear hA hB A B) | (refine hB ?_; clear hA hB A B) | (refine onV_if ?_ ?_; (focus (first | omega | (refine ⟨?_, ?_⟩ <;> omega))); simp only [onV_s]; (first | refine hA _ _ _ ?_ ?_ | refine hA _ _ _ ?_ (by first | exact .inl rfl | exact .inr (by decide)) ?_); (focus (simp [Q11, Fns.addN, nrm, nrm0, huT, huP, hel, hv1, hv2, hk0, tupV_none, tupV_some, Lit.cs, V.cs] <;> omega)); clear hA hB A B))
          | (refine RQ.nl ?_; refine hk _ _ ?_; clear hk k)
          | refine WP.sr fun k hk => ?_ | refine WP.r fun k hk => ?_
          | refine WP.sd _ rfl fun k hk => ?_ | refine WP.d _ rfl fun k hk => ?_
          | (refine WP.cc fun A B hA hB => ?_; simp [Q11, Fns.addN, nrm, nrm0, huT, huP, hel, hv1, hv2, hk0, tupV_none, tupV_some, Lit.cs, V.cs, onB_t, onB_f]; first | (refine hA ?_; clear hA hB A B) | (refine hB ?_; clear hA hB A B) | (refine onB_if (fun h => hA ?_) (fun h => hB ?_) <;> clear hA hB A B))
          | refine WP.q ?_ | refine WP.b ?_)
        simp
    | some u2 =>
      have hu2 := valT_ok heo hl2 hv2
      have hQ := fun s2 => Q11_holds op u1 u2 hu1 hu2 s2
      simp [Q11, Fns.addN, nrm] at hQ
      rw [hv2] at hd
      simp only at hd
      cases hk0 : (kd != 3) with
      | true =>
        rw [if_neg (by simpa using hk0)] at hd
        rw [hd]
        repeat' (first
          | refine WP.t ?_ | refine WP.k ?_ | refine WP.e ?_ | refine Qn ?_ | refine Qr ?_ | refine Qe ?_ | refine Bn ?_ | refine Br ?_ | refine Be ?_ | refine Bx (by decide) ?_
          | (refine RS.nl ?_; refine hk _ _ ?_; clear hk k)
          | ((first | refine RS.st fun A B hA hB => ?_ | refine RQ.st fun A B hA hB => ?_); simp [Q11, Fns.addN, nrm, nrm0, huT, huP, hel, hv1, hv2, hk0, tupV_none, tupV_some, Lit.cs, V.cs, onW_t, onW_f, onV_s]; first | ((first | refine hA _ _ _ ?_ ?_ | refine hA _ _ _ ?_ (by first | exact .inl rfl | exact .inr (by decide)) ?_); (focus (simp [Q11, Fns.addN, nrm, nrm0, huT, huP, hel, hv1, hv2, hk0, tupV_none, tupV_some, Lit.cs, V.cs] <;> omega)); clear hA hB A B) | (refine hB ?_; clear hA hB A B) | (refine onV_if ?_ ?_; (focus (first | omega | (refine ⟨?_, ?_⟩ <;> omega))); simp only [onV_s]; (first | refine hA _ _ _ ?_ ?_ | refine hA _ _ _ ?_ (by first | exact .inl rfl | exact .inr (by decide)) ?_); (focus (simp [Q11, Fns.addN, nrm, nrm0, huT, huP, hel, hv1, hv2, hk0, tupV_none, tupV_some, Lit.cs, V.cs] <;> omega)); clear hA hB A B))
          | (refine RQ.nl ?_; refine hk _ _ ?_; clear hk k)
          | refine WP.sr fun k hk => ?_ | refine WP.r fun k hk => ?_
          | refine WP.sd _ rfl fun k hk => ?_ | refine WP.d _ rfl fun k hk => ?_
          | (refine WP.cc fun A B hA hB => ?_; simp [Q11, Fns.addN, nrm, nrm0, huT, huP, hel, hv1, hv2, hk0, tupV_none, tupV_some, Lit.cs, V.cs, onB_t, onB_f]; first | (refine hA ?_; clear hA hB A B) | (refine hB ?_; clear hA hB A B) | (refine onB_if (fun h => hA ?_) (fun h => hB ?_) <;> clear hA hB A B))
          | refine WP.q ?_ | refine WP.b ?_)
        simp
      | false =>
        rw [if_pos (by simpa using hk0)] at hd
        rw [hd]
        repeat' (first
          | refine WP.t ?_ | refine WP.k ?_ | refine WP.e ?_ | refine Qn ?_ | refine Qr ?_ | refine Qe ?_ | refine Bn ?_ | refine Br ?_ | refine Be ?_ | refine Bx (by decide) ?_
          | (refine RS.nl ?_; refine hk _ _ ?_; clear hk k)
          | ((first | refine RS.st fun A B hA hB => ?_ | refine RQ.st fun A B hA hB => ?_); simp [hQ, Q11, Fns.addN, nrm, nrm0, huT, huP, huV, hel, hv1, hv2, hk0, tupV_none, tupV_some, Lit.cs, V.cs, onW_t, onW_f, onV_s]; first | ((first | refine hA _ _ _ ?_ ?_ | refine hA _ _ _ ?_ (by first | exact .inl rfl | exact .inr (by decide)) ?_); (focus (simp [hQ, Q11, Fns.addN, nrm, nrm0, huT, huP, huV, hel, hv1, hv2, hk0, tupV_none, tupV_some, Lit.cs, V.cs] <;> omega)); clear hA hB A B) | (refine hB ?_; clear hA hB A B) | (refine onV_if ?_ ?_; (focus (first | omega | (refine ⟨?_, ?_⟩ <;> omega))); simp only [onV_s]; (first | refine hA _ _ _ ?_ ?_ | refine hA _ _ _ ?_ (by first | exact .inl rfl | exact .inr (by decide)) ?_); (focus (simp [hQ, Q11, Fns.addN, nrm, nrm0, huT, huP, huV, hel, hv1, hv2, hk0, tupV_none, tupV_some, Lit.cs, V.cs] <;> omega)); clear hA hB A B))
          | (refine RQ.nl ?_; refine hk _ _ ?_; clear hk k)
          | refine WP.sr fun k hk => ?_ | refine WP.r fun k hk => ?_
          | refine WP.sd _ rfl fun k hk => ?_ | refine WP.d _ rfl fun k hk => ?_
          | (refine WP.cc fun A B hA hB => ?_; simp [hQ, Q11, Fns.addN, nrm, nrm0, huT, huP, huV, hel, hv1, hv2, hk0, tupV_none, tupV_some, Lit.cs, V.cs, onB_t, onB_f]; first | (refine hA ?_; clear hA hB A B) | (refine hB ?_; clear hA hB A B) | (refine onB_if (fun h => hA ?_) (fun h => hB ?_) <;> clear hA hB A B))
          | refine WP.q ?_ | refine WP.b ?_)
        simp
end
end Go.Am
