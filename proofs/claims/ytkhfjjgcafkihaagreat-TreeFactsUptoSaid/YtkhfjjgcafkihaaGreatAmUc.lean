/- Part of the proof: abstract values over the given model of Go (U8, U9, U10, U11). Conditions: none of its own; see the statement in the seat's Rows text. -/
import Derived.Test.YtkhfjjgcafkihaaGreatAmUb
set_option linter.unusedSimpArgs false
set_option linter.unusedVariables false
set_option linter.unusedSectionVars false
namespace Go.Am
open Go.Proofs
/-- A term. -/
structure Tm where
  b : Bool
  k : Str
  v : V
def Tm.cs (t : Tm) : List AV := [.bool t.b, .str t.k, .bool t.v.b, .str t.v.s, .int .i64 t.v.n]
def cTm : Cel Tm where
  cs := Tm.cs
  un x := match x with
    | [.bool b, .str k, .bool c, .str s, .int .i64 n] => some ⟨b, k, ⟨c, s, n⟩⟩
    | _ => none
  sz := 5
  un_cs _ := rfl
  cs_un x a h := by split at h <;> cases h; rfl
  len _ := rfl
  bl a n x hx := by
    simp [Tm.cs] at hx
    rcases hx with rfl | rfl | rfl | rfl | rfl <;> simp
theorem unL_Tm (l : List Tm) : unL cTm (l.map Tm.cs) = some l := unL_map cTm l
/-- An atom. -/
structure Atm where
  p : Str
  a : List Tm
def Atm.cs (t : Atm) : List AV := [.str t.p, .sl (t.a.map Tm.cs)]
theorem below_sl' {α : Type} (c : Cel α) (n : Nat) (l : List α) : Below n (.sl (l.map c.cs)) := below_sl.2 fun x hx y hy => by
  obtain ⟨a, _, rfl⟩ := List.mem_map.1 hx
  exact c.bl a n y hy
def cAtm : Cel Atm where
  cs := Atm.cs
  un x := match x with
    | [.str p, .sl l] => (unL cTm l).map fun a => ⟨p, a⟩
    | _ => none
  sz := 2
  un_cs t := by simp [Atm.cs, unL_Tm]
  cs_un x a h := by
    split at h
    · obtain ⟨l, hl, rfl⟩ := Option.map_eq_some_iff.1 h
      rw [unL_eq cTm _ _ hl]; rfl
    · cases h
  len _ := rfl
  bl a n x hx := by
    simp only [Atm.cs, List.mem_cons, List.mem_nil_iff, or_false] at hx
    rcases hx with rfl | rfl
    · simp
    · exact below_sl' cTm n _
def valT (t : Tm) (e : Envr) : Option V := if t.b then getE e t.k else some (bareV t.v)
def matchE : List Tm → List V → Envr → Option Envr
  | [], [], e => some e
  | t :: ts, v :: vs, e => match valT t e with
    | none => matchE ts vs (withE e t.k v)
    | some u => if cmpV u v == 0 then matchE ts vs e else none
  | _, _, _ => none
def groundE (e : Envr) : List Tm → Option (List V)
  | [] => some []
  | t :: ts => match valT t e with
    | none => none
    | some u => (groundE e ts).map (u :: ·)
def tupE : Option Envr → AV
  | some e => .tup [.sl (e.map Pr.cs), .bool true]
  | none => .tup [.sl [], .bool false]
def tupR : Option (List V) → AV
  | some e => .tup [.sl (e.map V.cs), .bool true]
  | none => .tup [.sl [], .bool false]
theorem tupV_some (v : V) : tupV (some v) = .tup [.agg v.cs, .bool true] := rfl
theorem tupV_none : tupV none = .tup [.agg [.bool false, .str [], .int .i64 0], .bool false] := rfl
theorem insR_len (e : Envr) (i : Nat) (p : Pr) (h : i ≤ e.length) : (insR e i p).length = e.length + 1 := by simp [insR]; omega
theorem withE_len (e : Envr) (nm : Str) (v : V) : (withE e nm v).length = e.length + 1 := insR_len _ _ _ (withAt_le e nm)
theorem valT_none {t : Tm} {e : Envr} (h : valT t e = none) : getE e t.k = none := by
  unfold valT at h
  split at h
  · exact h
  · cases h
section
variable {K : Nat} {gw : World} {s : St}
attribute [local simp] awanted xop zOf cz zrow aop ev T0 Slots.put Slots.set Slots.get awr WOk AV.may ofConst abinop aint isConst St.get_push St.get_put St.live AV.fit AV.cells AV.one fieldOf afieldAddr aload ofCells astore splice May eqres env_ti FinP FinZ FinW ares aresL ares1 Fns.addP Fns.add Fns.a0 Fns.a1 Fns.a2 Fns.a3 Fns.a4 abuiltin alenOk alen aindex elemOfT elemId abuildSlice afill chunks ard aappend isSS AV.isStr aminmax placesOf abuild afield aidx isStrD isStrDesc astrop aslice asliceOk abound arange anext aextract aunop aeq AV.ck avseq aveq aconv aconvert onB_t onB_f List.range_succ
def F10 : Fns := (F9.a2 103 (vSl cPr) vStr fun e nm => if e.length < LIM then some (tupV (getE e nm)) else none).a3 99 (vSl cPr) vStr (vAgg cV) fun e nm v => if e.length < 268435456 ∧ (getE e nm).isNone = true then some (.sl ((withE e nm v).map Pr.cs)) else none
theorem F10_ok : FOk (env K gw) F10 := by
  refine (F9_ok.a2 fun e nm s r h => ?_).a3 fun e nm v s r h => ?_
  · split at h
    · rename_i hl; cases h; exact ft_Get e nm hl
    · cases h
  · split at h
    · rename_i hl
      cases h
      exact ft_With e nm v hl.1 (Option.isNone_iff_eq_none.1 hl.2)
    · cases h
theorem ft_Value (t : Tm) (e : Envr) (hl : e.length < LIM) : FT (env K gw) NoW 98 [.agg t.cs, .sl (e.map Pr.cs)] s (tupV (valT t e)) s := by
  have hu := unL_Pr e
  obtain ⟨b, nm, v⟩ := t
  have hub : cV.un [.bool v.b, .str v.s, .int .i64 v.n] = some v := rfl
  refine FT.pure (fn := Tryz.f98) F10_ok mixed Tryz.func98 (by kernel_rfl) (by rfl) rfl rfl (by simp) rfl fun μ w => ?_
  cases b with
  | true =>
    cases hg : getE e nm with
    | none =>
      have hv : valT ⟨true, nm, v⟩ e = none := hg
      rw [hv]
      repeat' (first
        | refine WP.t ?_ | refine WP.k ?_ | refine WP.e ?_ | refine Qn ?_ | refine Qr ?_ | refine Qe ?_ | refine Bn ?_ | refine Br ?_ | refine Be ?_ | refine Bx (by decide) ?_
        | (refine RS.nl ?_; refine hk _ _ ?_; clear hk k)
        | ((first | refine RS.st fun A B hA hB => ?_ | refine RQ.st fun A B hA hB => ?_); simp [F10, Tm.cs, hu, hl, hg, tupV_none, onW_t, onW_f, onV_s]; first | ((first | refine hA _ _ _ ?_ ?_ | refine hA _ _ _ ?_ (by first | exact .inl rfl | exact .inr (by decide)) ?_); (focus (simp [F10, Tm.cs, hu, hl, hg, tupV_none] <;> omega)); clear hA hB A B) | (refine hB ?_; clear hA hB A B) | (refine onV_if ?_ ?_; (focus (first | omega | (refine ⟨?_, ?_⟩ <;> omega))); simp only [onV_s]; (first | refine hA _ _ _ ?_ ?_ | refine hA _ _ _ ?_ (by first | exact .inl rfl | exact .inr (by decide)) ?_); (focus (simp [F10, Tm.cs, hu, hl, hg, tupV_none] <;> omega)); clear hA hB A B))
        | (refine RQ.nl ?_; refine hk _ _ ?_; clear hk k)
        | refine WP.sr fun k hk => ?_ | refine WP.r fun k hk => ?_
        | refine WP.sd _ rfl fun k hk => ?_ | refine WP.d _ rfl fun k hk => ?_
        | (refine WP.cc fun A B hA hB => ?_; simp [F10, Tm.cs, hu, hl, hg, tupV_none, onB_t, onB_f]; first | (refine hA ?_; clear hA hB A B) | (refine hB ?_; clear hA hB A B) | (refine onB_if (fun h => hA ?_) (fun h => hB ?_) <;> clear hA hB A B))
        | refine WP.q ?_ | refine WP.b ?_)
      simp [tupV_none]
    | some u =>
      have hv : valT ⟨true, nm, v⟩ e = some u := hg
      rw [hv]
      repeat' (first
        | refine WP.t ?_ | refine WP.k ?_ | refine WP.e ?_ | refine Qn ?_ | refine Qr ?_ | refine Qe ?_ | refine Bn ?_ | refine Br ?_ | refine Be ?_ | refine Bx (by decide) ?_
        | (refine RS.nl ?_; refine hk _ _ ?_; clear hk k)
        | ((first | refine RS.st fun A B hA hB => ?_ | refine RQ.st fun A B hA hB => ?_); simp [F10, Tm.cs, hu, hl, hg, tupV_some, V.cs, onW_t, onW_f, onV_s]; first | ((first | refine hA _ _ _ ?_ ?_ | refine hA _ _ _ ?_ (by first | exact .inl rfl | exact .inr (by decide)) ?_); (focus (simp [F10, Tm.cs, hu, hl, hg, tupV_some, V.cs] <;> omega)); clear hA hB A B) | (refine hB ?_; clear hA hB A B) | (refine onV_if ?_ ?_; (focus (first | omega | (refine ⟨?_, ?_⟩ <;> omega))); simp only [onV_s]; (first | refine hA _ _ _ ?_ ?_ | refine hA _ _ _ ?_ (by first | exact .inl rfl | exact .inr (by decide)) ?_); (focus (simp [F10, Tm.cs, hu, hl, hg, tupV_some, V.cs] <;> omega)); clear hA hB A B))
        | (refine RQ.nl ?_; refine hk _ _ ?_; clear hk k)
        | refine WP.sr fun k hk => ?_ | refine WP.r fun k hk => ?_
        | refine WP.sd _ rfl fun k hk => ?_ | refine WP.d _ rfl fun k hk => ?_
        | (refine WP.cc fun A B hA hB => ?_; simp [F10, Tm.cs, hu, hl, hg, tupV_some, V.cs, onB_t, onB_f]; first | (refine hA ?_; clear hA hB A B) | (refine hB ?_; clear hA hB A B) | (refine onB_if (fun h => hA ?_) (fun h => hB ?_) <;> clear hA hB A B))
        | refine WP.q ?_ | refine WP.b ?_)
      simp [tupV_some, V.cs]
  | false =>
    have hv : valT ⟨false, nm, v⟩ e = some (bareV v) := rfl
    rw [hv]
    repeat' (first
      | refine WP.t ?_ | refine WP.k ?_ | refine WP.e ?_ | refine Qn ?_ | refine Qr ?_ | refine Qe ?_ | refine Bn ?_ | refine Br ?_ | refine Be ?_ | refine Bx (by decide) ?_
      | (refine RS.nl ?_; refine hk _ _ ?_; clear hk k)
      | ((first | refine RS.st fun A B hA hB => ?_ | refine RQ.st fun A B hA hB => ?_); simp [F10, F9, F8, F7, F6, F5, F4c, F4b, Tm.cs, hu, hl, hub, tupV_some, V.cs, onW_t, onW_f, onV_s]; first | ((first | refine hA _ _ _ ?_ ?_ | refine hA _ _ _ ?_ (by first | exact .inl rfl | exact .inr (by decide)) ?_); (focus (simp [F10, F9, F8, F7, F6, F5, F4c, F4b, Tm.cs, hu, hl, hub, tupV_some, V.cs] <;> omega)); clear hA hB A B) | (refine hB ?_; clear hA hB A B) | (refine onV_if ?_ ?_; (focus (first | omega | (refine ⟨?_, ?_⟩ <;> omega))); simp only [onV_s]; (first | refine hA _ _ _ ?_ ?_ | refine hA _ _ _ ?_ (by first | exact .inl rfl | exact .inr (by decide)) ?_); (focus (simp [F10, F9, F8, F7, F6, F5, F4c, F4b, Tm.cs, hu, hl, hub, tupV_some, V.cs] <;> omega)); clear hA hB A B))
      | (refine RQ.nl ?_; refine hk _ _ ?_; clear hk k)
      | refine WP.sr fun k hk => ?_ | refine WP.r fun k hk => ?_
      | refine WP.sd _ rfl fun k hk => ?_ | refine WP.d _ rfl fun k hk => ?_
      | (refine WP.cc fun A B hA hB => ?_; simp [F10, F9, F8, F7, F6, F5, F4c, F4b, Tm.cs, hu, hl, hub, tupV_some, V.cs, onB_t, onB_f]; first | (refine hA ?_; clear hA hB A B) | (refine hB ?_; clear hA hB A B) | (refine onB_if (fun h => hA ?_) (fun h => hB ?_) <;> clear hA hB A B))
      | refine WP.q ?_ | refine WP.b ?_)
    simp [tupV_some, V.cs]
def F11 : Fns := F10.addN 98 fun xs => match xs with
  | [.agg c, .sl d] => match cTm.un c, unL cPr d with
    | some t, some e => if e.length < LIM then some (tupV (valT t e)) else none
    | _, _ => none
  | _ => none
theorem F11_ok : FOk (env K gw) F11 := by
  refine F10_ok.addN fun xs s r h => ?_
  split at h
  · split at h
    · rename_i hc hd
      split at h
      · rename_i hl
        cases h
        rw [cTm.cs_un _ _ hc, unL_eq cPr _ _ hd]
        exact ft_Value _ _ hl
      · cases h
    · cases h
  · cases h
end
end Go.Am
namespace Go.Am
open Go.Proofs
theorem matchE_len : ∀ {a : List Tm} {r : List V} {e e' : Envr}, matchE a r e = some e' → e'.length ≤ e.length + a.length
  | [], [], e, e', h => by cases h; simp
  | [], _ :: _, e, e', h => by cases h
  | _ :: _, [], e, e', h => by cases h
  | t :: ts, v :: vs, e, e', h => by
    simp only [matchE] at h
    split at h
    · have := matchE_len h
      rw [withE_len] at this
      simp; omega
    · split at h
      · have := matchE_len h
        simp; omega
      · cases h
theorem matchE_ne : ∀ {a : List Tm} {r : List V} {e : Envr}, a.length ≠ r.length → matchE a r e = none
  | [], [], e, h => absurd rfl h
  | [], _ :: _, e, h => rfl
  | _ :: _, [], e, h => rfl
  | t :: ts, v :: vs, e, h => by
    simp only [matchE]
    have h' : ts.length ≠ vs.length := fun e => h (by simp [e])
    split
    · exact matchE_ne h'
    · split
      · exact matchE_ne h'
      · rfl
theorem matchE_drop {a : List Tm} {r : List V} {e : Envr} {i : Nat} (ha : i < a.length) (hr : i < r.length) : matchE (a.drop i) (r.drop i) e = match valT a[i] e with
    | none => matchE (a.drop (i + 1)) (r.drop (i + 1)) (withE e a[i].k r[i])
    | some u => if cmpV u r[i] == 0 then matchE (a.drop (i + 1)) (r.drop (i + 1)) e else none := by
  rw [List.drop_eq_getElem_cons ha, List.drop_eq_getElem_cons hr]; rfl
theorem groundE_drop {a : List Tm} {e : Envr} {i : Nat} (ha : i < a.length) : groundE e (a.drop i) = match valT a[i] e with
    | none => none
    | some u => (groundE e (a.drop (i + 1))).map (u :: ·) := by
  rw [List.drop_eq_getElem_cons ha]; rfl
section
variable {K : Nat} {gw : World} {s : St}
attribute [local simp] awanted xop zOf cz zrow aop ev T0 Slots.put Slots.set Slots.get awr WOk AV.may ofConst abinop aint isConst St.get_push St.get_put St.live AV.fit AV.cells AV.one fieldOf afieldAddr aload ofCells astore splice May eqres env_ti FinP FinZ FinW ares aresL ares1 Fns.addP Fns.add Fns.a0 Fns.a1 Fns.a2 Fns.a3 Fns.a4 abuiltin alenOk alen aindex elemOfT elemId abuildSlice afill chunks ard aappend isSS AV.isStr aminmax placesOf abuild afield aidx isStrD isStrDesc astrop aslice asliceOk abound arange anext aextract aunop aeq AV.ck avseq aveq aconv aconvert onB_t onB_f List.range_succ
set_option maxHeartbeats 4000000 in
theorem ft_Match (t : Atm) (r : List V) (e : Envr) (hl : e.length + t.a.length < 268435456) (hr : r.length < 268435456) : FT (env K gw) NoW 88 [.agg t.cs, .sl (r.map V.cs), .sl (e.map Pr.cs)] s (tupE (matchE t.a r e)) s := by
  obtain ⟨p, a⟩ := t
  simp only at hl
  refine FT.data (fn := Tryz.f88) F11_ok mixed Tryz.func88 (by kernel_rfl) (by rfl) rfl rfl (by simp) rfl fun μ w => ?_
  by_cases hne : a.length = r.length
  · have hnb : (((a.length : Nat) : Int) != ((r.length : Nat) : Int)) = false := by simp [hne]
    repeat' (first
      | refine WP.t ?_ | refine WP.k ?_ | refine WP.e ?_ | refine Qn ?_ | refine Qr ?_ | refine Qe ?_ | refine Bn ?_ | refine Br ?_ | refine Be ?_ | refine Bx (by decide) ?_
      | (refine RS.nl ?_; refine hk _ _ ?_; clear hk k)
      | ((first | refine RS.st fun A B hA hB => ?_ | refine RQ.st fun A B hA hB => ?_); simp [Atm.cs, hnb, onW_t, onW_f, onV_s]; first | ((first | refine hA _ _ _ ?_ ?_ | refine hA _ _ _ ?_ (by first | exact .inl rfl | exact .inr (by decide)) ?_); (focus (simp [Atm.cs, hnb] <;> omega)); clear hA hB A B) | (refine hB ?_; clear hA hB A B) | (refine onV_if ?_ ?_; (focus (first | omega | (refine ⟨?_, ?_⟩ <;> omega))); simp only [onV_s]; (first | refine hA _ _ _ ?_ ?_ | refine hA _ _ _ ?_ (by first | exact .inl rfl | exact .inr (by decide)) ?_); (focus (simp [Atm.cs, hnb] <;> omega)); clear hA hB A B))
      | (refine RQ.nl ?_; refine hk _ _ ?_; clear hk k)
      | refine WP.sr fun k hk => ?_ | refine WP.r fun k hk => ?_
      | refine WP.sd _ rfl fun k hk => ?_ | refine WP.d _ rfl fun k hk => ?_
      | (refine WP.cc fun A B hA hB => ?_; simp [Atm.cs, hnb, onB_t, onB_f]; first | (refine hA ?_; clear hA hB A B) | (refine hB ?_; clear hA hB A B) | (refine onB_if (fun h => hA ?_) (fun h => hB ?_) <;> clear hA hB A B))
      | refine WP.q ?_ | refine WP.b ?_)
    refine WP_loop (fun n T s' => ∃ (i : Nat) (c : Envr), n + i = a.length ∧ T.get 1 = .sl (r.map V.cs) ∧ T.get 2 = .sl (c.map Pr.cs) ∧ T.get 19 = .sl (a.map Tm.cs) ∧ T.get 20 = .int .i64 a.length ∧ T.get 21 = .int .i64 i ∧ s.nx ≤ s'.nx ∧ c.length ≤ e.length + i ∧ matchE a r e = matchE (a.drop i) (r.drop i) c) a.length
      ⟨0, e, by simp, by simp, by simp, by simp, by simp, by simp, by simp, by simp, by simp⟩ ?_
    rintro n T s' ⟨i, c, hn, h1, h2, h19, h20, h21, hnx, hcl, hm⟩
    by_cases hi : i < a.length
    · have hi2 : i < r.length := by omega
      have hw : IntKind.i64.wrap ((i : Int) + 1) = (i : Int) + 1 := wrap64 (by omega) (by omega)
      have hlt : ((i : Int) < (a.length : Int)) := by omega
      have ha : a[i]? = some a[i] := List.getElem?_eq_getElem hi
      have hb : r[i]? = some r[i] := List.getElem?_eq_getElem hi2
      have hmd := matchE_drop (e := c) hi hi2
      have huT := fun (t : Tm) => show cTm.un [.bool t.b, .str t.k, .bool t.v.b, .str t.v.s, .int .i64 t.v.n] = some t from rfl
      have huV := fun (v : V) => show cV.un [.bool v.b, .str v.s, .int .i64 v.n] = some v from rfl
      have huP := unL_Pr c
      have hcl2 : c.length < 268435456 := by omega
      have hcl3 : c.length < LIM := by simp only [LIM]; omega
      generalize hat : a[i] = t at *
      generalize hrv : r[i] = v at *
      cases hv : valT t c with
      | none =>
        have hge := valT_none hv
        rw [hv] at hmd
        repeat' (first
          | refine WP.t ?_ | refine WP.k ?_ | refine WP.e ?_ | refine Qn ?_ | refine Qr ?_ | refine Qe ?_ | refine Bn ?_ | refine Br ?_ | refine Be ?_ | refine Bx (by decide) ?_
          | (refine RS.nl ?_; refine hk _ _ ?_; clear hk k)
          | ((first | refine RS.st fun A B hA hB => ?_ | refine RQ.st fun A B hA hB => ?_); simp [F11, Fns.addN, nrm, nrm0, h1, h2, h19, h20, h21, hlt, hi, hi2, ha, hb, hat, hrv, hw, huT, huP, huV, hcl2, hcl3, hv, hge, tupV_none, F10, Tm.cs, V.cs, onW_t, onW_f, onV_s]; first | ((first | refine hA _ _ _ ?_ ?_ | refine hA _ _ _ ?_ (by first | exact .inl rfl | exact .inr (by decide)) ?_); (focus (simp [F11, Fns.addN, nrm, nrm0, h1, h2, h19, h20, h21, hlt, hi, hi2, ha, hb, hat, hrv, hw, huT, huP, huV, hcl2, hcl3, hv, hge, tupV_none, F10, Tm.cs, V.cs] <;> omega)); clear hA hB A B) | (refine hB ?_; clear hA hB A B) | (refine onV_if ?_ ?_; (focus (first | omega | (refine ⟨?_, ?_⟩ <;> omega))); simp only [onV_s]; (first | refine hA _ _ _ ?_ ?_ | refine hA _ _ _ ?_ (by first | exact .inl rfl | exact .inr (by decide)) ?_); (focus (simp [F11, Fns.addN, nrm, nrm0, h1, h2, h19, h20, h21, hlt, hi, hi2, ha, hb, hat, hrv, hw, huT, huP, huV, hcl2, hcl3, hv, hge, tupV_none, F10, Tm.cs, V.cs] <;> omega)); clear hA hB A B))
          | (refine RQ.nl ?_; refine hk _ _ ?_; clear hk k)
          | refine WP.sr fun k hk => ?_ | refine WP.r fun k hk => ?_
          | refine WP.sd _ rfl fun k hk => ?_ | refine WP.d _ rfl fun k hk => ?_
          | (refine WP.cc fun A B hA hB => ?_; simp [F11, Fns.addN, nrm, nrm0, h1, h2, h19, h20, h21, hlt, hi, hi2, ha, hb, hat, hrv, hw, huT, huP, huV, hcl2, hcl3, hv, hge, tupV_none, F10, Tm.cs, V.cs, onB_t, onB_f]; first | (refine hA ?_; clear hA hB A B) | (refine hB ?_; clear hA hB A B) | (refine onB_if (fun h => hA ?_) (fun h => hB ?_) <;> clear hA hB A B))
          | refine WP.q ?_ | refine WP.b ?_)
        refine ⟨n - 1, by omega, i + 1, withE c t.k v, by omega, by simp [h1], by simp, by simp [h19], by simp [h20], by simp, by simp; omega, by rw [withE_len]; omega, by rw [hm, hmd]⟩
      | some u =>
        rw [hv] at hmd
        simp only at hmd
        cases hs : (cmpV u v == 0) with
        | true =>
          rw [hs] at hmd
          repeat' (first
            | refine WP.t ?_ | refine WP.k ?_ | refine WP.e ?_ | refine Qn ?_ | refine Qr ?_ | refine Qe ?_ | refine Bn ?_ | refine Br ?_ | refine Be ?_ | refine Bx (by decide) ?_
            | (refine RS.nl ?_; refine hk _ _ ?_; clear hk k)
            | ((first | refine RS.st fun A B hA hB => ?_ | refine RQ.st fun A B hA hB => ?_); simp [F11, Fns.addN, nrm, nrm0, h1, h2, h19, h20, h21, hlt, hi, hi2, ha, hb, hat, hrv, hw, huT, huP, huV, hcl2, hcl3, hv, tupV_some, F10, F9, F8, F7, F6, F5, F4c, F4b, hs, Tm.cs, V.cs, onW_t, onW_f, onV_s]; first | ((first | refine hA _ _ _ ?_ ?_ | refine hA _ _ _ ?_ (by first | exact .inl rfl | exact .inr (by decide)) ?_); (focus (simp [F11, Fns.addN, nrm, nrm0, h1, h2, h19, h20, h21, hlt, hi, hi2, ha, hb, hat, hrv, hw, huT, huP, huV, hcl2, hcl3, hv, tupV_some, F10, F9, F8, F7, F6, F5, F4c, F4b, hs, Tm.cs, V.cs] <;> omega)); clear hA hB A B) | (refine hB ?_; clear hA hB A B) | (refine onV_if ?_ ?_; (focus (first | omega | (refine ⟨?_, ?_⟩ <;> omega))); simp only [onV_s]; (first | refine hA _ _ _ ?_ ?_ | refine hA _ _ _ ?_ (by first | exact .inl rfl | exact .inr (by decide)) ?_); (focus (simp [F11, Fns.addN, nrm, nrm0, h1, h2, h19, h20, h21, hlt, hi, hi2, ha, hb, hat, hrv, hw, huT, huP, huV, hcl2, hcl3, hv, tupV_some, F10, F9, F8, F7, F6, F5, F4c, F4b, hs, Tm.cs, V.cs] <;> omega)); clear hA hB A B))
            | (refine RQ.nl ?_; refine hk _ _ ?_; clear hk k)
            | refine WP.sr fun k hk => ?_ | refine WP.r fun k hk => ?_
            | refine WP.sd _ rfl fun k hk => ?_ | refine WP.d _ rfl fun k hk => ?_
            | (refine WP.cc fun A B hA hB => ?_; simp [F11, Fns.addN, nrm, nrm0, h1, h2, h19, h20, h21, hlt, hi, hi2, ha, hb, hat, hrv, hw, huT, huP, huV, hcl2, hcl3, hv, tupV_some, F10, F9, F8, F7, F6, F5, F4c, F4b, hs, Tm.cs, V.cs, onB_t, onB_f]; first | (refine hA ?_; clear hA hB A B) | (refine hB ?_; clear hA hB A B) | (refine onB_if (fun h => hA ?_) (fun h => hB ?_) <;> clear hA hB A B))
            | refine WP.q ?_ | refine WP.b ?_)
          refine ⟨n - 1, by omega, i + 1, c, by omega, by simp [h1], by simp [h2], by simp [h19], by simp [h20], by simp, by simp; omega, by omega, by rw [hm, hmd]; rfl⟩
        | false =>
          rw [hs] at hmd
          repeat' (first
            | refine WP.t ?_ | refine WP.k ?_ | refine WP.e ?_ | refine Qn ?_ | refine Qr ?_ | refine Qe ?_ | refine Bn ?_ | refine Br ?_ | refine Be ?_ | refine Bx (by decide) ?_
            | (refine RS.nl ?_; refine hk _ _ ?_; clear hk k)
            | ((first | refine RS.st fun A B hA hB => ?_ | refine RQ.st fun A B hA hB => ?_); simp [F11, Fns.addN, nrm, nrm0, h1, h2, h19, h20, h21, hlt, hi, hi2, ha, hb, hat, hrv, hw, huT, huP, huV, hcl2, hcl3, hv, tupV_some, F10, F9, F8, F7, F6, F5, F4c, F4b, hs, Tm.cs, V.cs, onW_t, onW_f, onV_s]; first | ((first | refine hA _ _ _ ?_ ?_ | refine hA _ _ _ ?_ (by first | exact .inl rfl | exact .inr (by decide)) ?_); (focus (simp [F11, Fns.addN, nrm, nrm0, h1, h2, h19, h20, h21, hlt, hi, hi2, ha, hb, hat, hrv, hw, huT, huP, huV, hcl2, hcl3, hv, tupV_some, F10, F9, F8, F7, F6, F5, F4c, F4b, hs, Tm.cs, V.cs] <;> omega)); clear hA hB A B) | (refine hB ?_; clear hA hB A B) | (refine onV_if ?_ ?_; (focus (first | omega | (refine ⟨?_, ?_⟩ <;> omega))); simp only [onV_s]; (first | refine hA _ _ _ ?_ ?_ | refine hA _ _ _ ?_ (by first | exact .inl rfl | exact .inr (by decide)) ?_); (focus (simp [F11, Fns.addN, nrm, nrm0, h1, h2, h19, h20, h21, hlt, hi, hi2, ha, hb, hat, hrv, hw, huT, huP, huV, hcl2, hcl3, hv, tupV_some, F10, F9, F8, F7, F6, F5, F4c, F4b, hs, Tm.cs, V.cs] <;> omega)); clear hA hB A B))
            | (refine RQ.nl ?_; refine hk _ _ ?_; clear hk k)
            | refine WP.sr fun k hk => ?_ | refine WP.r fun k hk => ?_
            | refine WP.sd _ rfl fun k hk => ?_ | refine WP.d _ rfl fun k hk => ?_
            | (refine WP.cc fun A B hA hB => ?_; simp [F11, Fns.addN, nrm, nrm0, h1, h2, h19, h20, h21, hlt, hi, hi2, ha, hb, hat, hrv, hw, huT, huP, huV, hcl2, hcl3, hv, tupV_some, F10, F9, F8, F7, F6, F5, F4c, F4b, hs, Tm.cs, V.cs, onB_t, onB_f]; first | (refine hA ?_; clear hA hB A B) | (refine hB ?_; clear hA hB A B) | (refine onB_if (fun h => hA ?_) (fun h => hB ?_) <;> clear hA hB A B))
            | refine WP.q ?_ | refine WP.b ?_)
          rw [hm, hmd]
          exact ⟨.inr rfl, .tup [.nsl, .bool false], by simp, frz_tup2 .nil (.same _ (by simp))⟩
    · have hlt : ¬ ((i : Int) < (a.length : Int)) := by omega
      have hm2 : matchE a r e = some c := by
        rw [hm, List.drop_eq_nil_of_le (by omega), List.drop_eq_nil_of_le (by omega)]; rfl
      repeat' (first
        | refine WP.t ?_ | refine WP.k ?_ | refine WP.e ?_ | refine Qn ?_ | refine Qr ?_ | refine Qe ?_ | refine Bn ?_ | refine Br ?_ | refine Be ?_ | refine Bx (by decide) ?_
        | (refine RS.nl ?_; refine hk _ _ ?_; clear hk k)
        | ((first | refine RS.st fun A B hA hB => ?_ | refine RQ.st fun A B hA hB => ?_); simp [h1, h2, h19, h20, h21, hlt, onW_t, onW_f, onV_s]; first | ((first | refine hA _ _ _ ?_ ?_ | refine hA _ _ _ ?_ (by first | exact .inl rfl | exact .inr (by decide)) ?_); (focus (simp [h1, h2, h19, h20, h21, hlt] <;> omega)); clear hA hB A B) | (refine hB ?_; clear hA hB A B) | (refine onV_if ?_ ?_; (focus (first | omega | (refine ⟨?_, ?_⟩ <;> omega))); simp only [onV_s]; (first | refine hA _ _ _ ?_ ?_ | refine hA _ _ _ ?_ (by first | exact .inl rfl | exact .inr (by decide)) ?_); (focus (simp [h1, h2, h19, h20, h21, hlt] <;> omega)); clear hA hB A B))
        | (refine RQ.nl ?_; refine hk _ _ ?_; clear hk k)
        | refine WP.sr fun k hk => ?_ | refine WP.r fun k hk => ?_
        | refine WP.sd _ rfl fun k hk => ?_ | refine WP.d _ rfl fun k hk => ?_
        | (refine WP.cc fun A B hA hB => ?_; simp [h1, h2, h19, h20, h21, hlt, onB_t, onB_f]; first | (refine hA ?_; clear hA hB A B) | (refine hB ?_; clear hA hB A B) | (refine onB_if (fun h => hA ?_) (fun h => hB ?_) <;> clear hA hB A B))
        | refine WP.q ?_ | refine WP.b ?_)
      rw [hm2]
      exact ⟨.inr rfl, .tup [.sl (c.map Pr.cs), .bool true], by simp [h2], frz_tup2 (.same _ (below_E _ _)) (.same _ (by simp))⟩
  · have hnb : (((a.length : Nat) : Int) != ((r.length : Nat) : Int)) = true := by
      rw [bne_iff_ne]; omega
    repeat' (first
      | refine WP.t ?_ | refine WP.k ?_ | refine WP.e ?_ | refine Qn ?_ | refine Qr ?_ | refine Qe ?_ | refine Bn ?_ | refine Br ?_ | refine Be ?_ | refine Bx (by decide) ?_
      | (refine RS.nl ?_; refine hk _ _ ?_; clear hk k)
      | ((first | refine RS.st fun A B hA hB => ?_ | refine RQ.st fun A B hA hB => ?_); simp [Atm.cs, hnb, onW_t, onW_f, onV_s]; first | ((first | refine hA _ _ _ ?_ ?_ | refine hA _ _ _ ?_ (by first | exact .inl rfl | exact .inr (by decide)) ?_); (focus (simp [Atm.cs, hnb] <;> omega)); clear hA hB A B) | (refine hB ?_; clear hA hB A B) | (refine onV_if ?_ ?_; (focus (first | omega | (refine ⟨?_, ?_⟩ <;> omega))); simp only [onV_s]; (first | refine hA _ _ _ ?_ ?_ | refine hA _ _ _ ?_ (by first | exact .inl rfl | exact .inr (by decide)) ?_); (focus (simp [Atm.cs, hnb] <;> omega)); clear hA hB A B))
      | (refine RQ.nl ?_; refine hk _ _ ?_; clear hk k)
      | refine WP.sr fun k hk => ?_ | refine WP.r fun k hk => ?_
      | refine WP.sd _ rfl fun k hk => ?_ | refine WP.d _ rfl fun k hk => ?_
      | (refine WP.cc fun A B hA hB => ?_; simp [Atm.cs, hnb, onB_t, onB_f]; first | (refine hA ?_; clear hA hB A B) | (refine hB ?_; clear hA hB A B) | (refine onB_if (fun h => hA ?_) (fun h => hB ?_) <;> clear hA hB A B))
      | refine WP.q ?_ | refine WP.b ?_)
    rw [matchE_ne hne]
    exact ⟨.inr rfl, .tup [.nsl, .bool false], by simp, frz_tup2 .nil (.same _ (by simp))⟩
end
end Go.Am
namespace Go.Am
open Go.Proofs
theorem groundE_len : ∀ {a : List Tm} {e : Envr} {r : List V}, groundE e a = some r → r.length = a.length
  | [], e, r, h => by cases h; rfl
  | t :: ts, e, r, h => by
    simp only [groundE] at h
    split at h
    · cases h
    · obtain ⟨r', h', rfl⟩ := Option.map_eq_some_iff.1 h
      simp [groundE_len h']
/-- A literal. -/
structure Lit where
  kind : Int
  atom : Atm
  op : Str
  l : Tm
  r : Tm
def Lit.cs (t : Lit) : List AV := [.int .i64 t.kind, .str t.atom.p, .sl (t.atom.a.map Tm.cs), .str t.op, .bool t.l.b, .str t.l.k, .bool t.l.v.b, .str t.l.v.s, .int .i64 t.l.v.n, .bool t.r.b, .str t.r.k, .bool t.r.v.b, .str t.r.v.s, .int .i64 t.r.v.n]
def cLit : Cel Lit where
  cs := Lit.cs
  un x := match x with
    | [.int .i64 k, .str p, .sl l, .str op, .bool b, .str nm, .bool c, .str s, .int .i64 n, .bool b', .str nm', .bool c', .str s', .int .i64 n'] => (unL cTm l).map fun a => ⟨k, ⟨p, a⟩, op, ⟨b, nm, ⟨c, s, n⟩⟩, ⟨b', nm', ⟨c', s', n'⟩⟩⟩
    | _ => none
  sz := 14
  un_cs t := by simp [Lit.cs, unL_Tm]
  cs_un x a h := by
    split at h
    · obtain ⟨l, hl, rfl⟩ := Option.map_eq_some_iff.1 h
      rw [unL_eq cTm _ _ hl]; rfl
    · cases h
  len _ := rfl
  bl a n x hx := by
    simp only [Lit.cs, List.mem_cons, List.mem_nil_iff, or_false] at hx
    rcases hx with rfl | rfl | rfl | rfl | rfl | rfl | rfl | rfl | rfl | rfl | rfl | rfl | rfl | rfl
    case inr.inr.inl => exact below_sl' cTm n _
    all_goals simp
theorem unL_Lit (l : List Lit) : unL cLit (l.map Lit.cs) = some l := unL_map cLit l
def holdsE (l : Lit) (e : Envr) : Bool × Bool :=
  match valT l.l e, valT l.r e with
  | some a, some b => if l.kind = 3 then opH l.op (cmpV a b) else (false, false)
  | _, _ => (false, false)
section
variable {K : Nat} {gw : World} {s : St}
attribute [local simp] awanted xop zOf cz zrow aop ev T0 Slots.put Slots.set Slots.get awr WOk AV.may ofConst abinop aint isConst St.get_push St.get_put St.live AV.fit AV.cells AV.one fieldOf afieldAddr aload ofCells astore splice May eqres env_ti FinP FinZ FinW ares aresL ares1 Fns.addP Fns.add Fns.a0 Fns.a1 Fns.a2 Fns.a3 Fns.a4 abuiltin alenOk alen aindex elemOfT elemId abuildSlice afill chunks ard aappend isSS AV.isStr aminmax placesOf abuild afield aidx isStrD isStrDesc astrop aslice asliceOk abound arange anext aextract aunop aeq AV.ck avseq aveq aconv aconvert onB_t onB_f List.range_succ
def F12 : Fns := F11.addN 88 fun xs => match xs with
  | [.agg c, .sl d, .sl g] => match cAtm.un c, unL cV d, unL cPr g with
    | some t, some r, some e => if e.length + t.a.length < 268435456 ∧ r.length < 268435456 then some (tupE (matchE t.a r e)) else none
    | _, _, _ => none
  | _ => none
theorem F12_ok : FOk (env K gw) F12 := by
  refine F11_ok.addN fun xs s r h => ?_
  split at h
  · split at h
    · rename_i hc hd hg
      split at h
      · rename_i hl
        cases h
        rw [cAtm.cs_un _ _ hc, unL_eq cV _ _ hd, unL_eq cPr _ _ hg]
        exact ft_Match _ _ _ hl.1 hl.2
      · cases h
    · cases h
  · cases h
set_option maxHeartbeats 4000000 in
theorem ft_Ground (t : Atm) (e : Envr) (hl : t.a.length < 268435456) (hel : e.length < LIM) : FT (env K gw) NoW 90 [.agg t.cs, .sl (e.map Pr.cs)] s (tupR (groundE e t.a)) s := by
  obtain ⟨p, a⟩ := t
  simp only at hl
  refine FT.data (fn := Tryz.f90) F11_ok mixed Tryz.func90 (by kernel_rfl) (by rfl) rfl rfl (by simp) rfl fun μ w => ?_
  repeat' (first
    | refine WP.t ?_ | refine WP.k ?_ | refine WP.e ?_ | refine Qn ?_ | refine Qr ?_ | refine Qe ?_ | refine Bn ?_ | refine Br ?_ | refine Be ?_ | refine Bx (by decide) ?_
    | (refine RS.nl ?_; refine hk _ _ ?_; clear hk k)
    | ((first | refine RS.st fun A B hA hB => ?_ | refine RQ.st fun A B hA hB => ?_); simp [Atm.cs, onW_t, onW_f, onV_s]; first | ((first | refine hA _ _ _ ?_ ?_ | refine hA _ _ _ ?_ (by first | exact .inl rfl | exact .inr (by decide)) ?_); (focus (simp [Atm.cs] <;> omega)); clear hA hB A B) | (refine hB ?_; clear hA hB A B) | (refine onV_if ?_ ?_; (focus (first | omega | (refine ⟨?_, ?_⟩ <;> omega))); simp only [onV_s]; (first | refine hA _ _ _ ?_ ?_ | refine hA _ _ _ ?_ (by first | exact .inl rfl | exact .inr (by decide)) ?_); (focus (simp [Atm.cs] <;> omega)); clear hA hB A B))
    | (refine RQ.nl ?_; refine hk _ _ ?_; clear hk k)
    | refine WP.sr fun k hk => ?_ | refine WP.r fun k hk => ?_
    | refine WP.sd _ rfl fun k hk => ?_ | refine WP.d _ rfl fun k hk => ?_
    | (refine WP.cc fun A B hA hB => ?_; simp [Atm.cs, onB_t, onB_f]; first | (refine hA ?_; clear hA hB A B) | (refine hB ?_; clear hA hB A B) | (refine onB_if (fun h => hA ?_) (fun h => hB ?_) <;> clear hA hB A B))
    | refine WP.q ?_ | refine WP.b ?_)
  refine WP_loop (fun n T s' => ∃ (i : Nat) (acc : List V), n + i = a.length ∧ T.get 1 = .sl (e.map Pr.cs) ∧ T.get 12 = .sl (a.map Tm.cs) ∧ T.get 13 = .int .i64 a.length ∧ T.get 14 = .int .i64 i ∧ s.nx ≤ s'.nx ∧ acc.length = i ∧ groundE e a = (groundE e (a.drop i)).map (acc ++ ·) ∧
    ((acc = [] ∧ T.get 6 = .nsl) ∨ (acc ≠ [] ∧ ∃ q, s.nx ≤ q ∧ q < s'.nx ∧ T.get 6 = .ls q 0 acc.length ∧ s'.get q = some (.row 3 (true, 42) (acc.map V.cs))))) a.length
    ⟨0, [], by simp, by simp, by simp, by simp, by simp, by simp, rfl, by simp, .inl ⟨rfl, by simp⟩⟩ ?_
  rintro n T s' ⟨i, acc, hn, h1, h12, h13, h14, hnx, hal, hm, hB⟩
  by_cases hi : i < a.length
  · have hw : IntKind.i64.wrap ((i : Int) + 1) = (i : Int) + 1 := wrap64 (by omega) (by omega)
    have hlt : ((i : Int) < (a.length : Int)) := by omega
    have ha : a[i]? = some a[i] := List.getElem?_eq_getElem hi
    have hmd := groundE_drop (e := e) hi
    have huT := fun (t : Tm) => show cTm.un [.bool t.b, .str t.k, .bool t.v.b, .str t.v.s, .int .i64 t.v.n] = some t from rfl
    have huP := unL_Pr e
    generalize hat : a[i] = t at *
    cases hv : valT t e with
    | none =>
      rw [hv] at hmd
      repeat' (first
        | refine WP.t ?_ | refine WP.k ?_ | refine WP.e ?_ | refine Qn ?_ | refine Qr ?_ | refine Qe ?_ | refine Bn ?_ | refine Br ?_ | refine Be ?_ | refine Bx (by decide) ?_
        | (refine RS.nl ?_; refine hk _ _ ?_; clear hk k)
        | ((first | refine RS.st fun A B hA hB => ?_ | refine RQ.st fun A B hA hB => ?_); simp [F11, Fns.addN, nrm, nrm0, h1, h12, h13, h14, hlt, hi, ha, hat, hw, huT, huP, hel, hv, tupV_none, F10, Tm.cs, V.cs, onW_t, onW_f, onV_s]; first | ((first | refine hA _ _ _ ?_ ?_ | refine hA _ _ _ ?_ (by first | exact .inl rfl | exact .inr (by decide)) ?_); (focus (simp [F11, Fns.addN, nrm, nrm0, h1, h12, h13, h14, hlt, hi, ha, hat, hw, huT, huP, hel, hv, tupV_none, F10, Tm.cs, V.cs] <;> omega)); clear hA hB A B) | (refine hB ?_; clear hA hB A B) | (refine onV_if ?_ ?_; (focus (first | omega | (refine ⟨?_, ?_⟩ <;> omega))); simp only [onV_s]; (first | refine hA _ _ _ ?_ ?_ | refine hA _ _ _ ?_ (by first | exact .inl rfl | exact .inr (by decide)) ?_); (focus (simp [F11, Fns.addN, nrm, nrm0, h1, h12, h13, h14, hlt, hi, ha, hat, hw, huT, huP, hel, hv, tupV_none, F10, Tm.cs, V.cs] <;> omega)); clear hA hB A B))
        | (refine RQ.nl ?_; refine hk _ _ ?_; clear hk k)
        | refine WP.sr fun k hk => ?_ | refine WP.r fun k hk => ?_
        | refine WP.sd _ rfl fun k hk => ?_ | refine WP.d _ rfl fun k hk => ?_
        | (refine WP.cc fun A B hA hB => ?_; simp [F11, Fns.addN, nrm, nrm0, h1, h12, h13, h14, hlt, hi, ha, hat, hw, huT, huP, hel, hv, tupV_none, F10, Tm.cs, V.cs, onB_t, onB_f]; first | (refine hA ?_; clear hA hB A B) | (refine hB ?_; clear hA hB A B) | (refine onB_if (fun h => hA ?_) (fun h => hB ?_) <;> clear hA hB A B))
        | refine WP.q ?_ | refine WP.b ?_)
      rw [hm, hmd]
      exact ⟨.inr rfl, .tup [.nsl, .bool false], by simp, frz_tup2 .nil (.same _ (by simp))⟩
    | some u =>
      rw [hv] at hmd
      have hne : ∀ acc : List V, acc ++ [u] ≠ [] := by simp
      rcases hB with ⟨rfl, h6⟩ | ⟨hne0, q, hq1, hq2, h6, hqr⟩
      · skip
        repeat' (first
          | refine WP.t ?_ | refine WP.k ?_ | refine WP.e ?_ | refine Qn ?_ | refine Qr ?_ | refine Qe ?_ | refine Bn ?_ | refine Br ?_ | refine Be ?_ | refine Bx (by decide) ?_
          | (refine RS.nl ?_; refine hk _ _ ?_; clear hk k)
          | ((first | refine RS.st fun A B hA hB => ?_ | refine RQ.st fun A B hA hB => ?_); simp [F11, Fns.addN, nrm, nrm0, h1, h6, h12, h13, h14, hlt, hi, ha, hat, hw, huT, huP, hel, hv, tupV_some, F10, Tm.cs, V.cs, onW_t, onW_f, onV_s]; first | ((first | refine hA _ _ _ ?_ ?_ | refine hA _ _ _ ?_ (by first | exact .inl rfl | exact .inr (by decide)) ?_); (focus (simp [F11, Fns.addN, nrm, nrm0, h1, h6, h12, h13, h14, hlt, hi, ha, hat, hw, huT, huP, hel, hv, tupV_some, F10, Tm.cs, V.cs] <;> omega)); clear hA hB A B) | (refine hB ?_; clear hA hB A B) | (refine onV_if ?_ ?_; (focus (first | omega | (refine ⟨?_, ?_⟩ <;> omega))); simp only [onV_s]; (first | refine hA _ _ _ ?_ ?_ | refine hA _ _ _ ?_ (by first | exact .inl rfl | exact .inr (by decide)) ?_); (focus (simp [F11, Fns.addN, nrm, nrm0, h1, h6, h12, h13, h14, hlt, hi, ha, hat, hw, huT, huP, hel, hv, tupV_some, F10, Tm.cs, V.cs] <;> omega)); clear hA hB A B))
          | (refine RQ.nl ?_; refine hk _ _ ?_; clear hk k)
          | refine WP.sr fun k hk => ?_ | refine WP.r fun k hk => ?_
          | refine WP.sd _ rfl fun k hk => ?_ | refine WP.d _ rfl fun k hk => ?_
          | (refine WP.cc fun A B hA hB => ?_; simp [F11, Fns.addN, nrm, nrm0, h1, h6, h12, h13, h14, hlt, hi, ha, hat, hw, huT, huP, hel, hv, tupV_some, F10, Tm.cs, V.cs, onB_t, onB_f]; first | (refine hA ?_; clear hA hB A B) | (refine hB ?_; clear hA hB A B) | (refine onB_if (fun h => hA ?_) (fun h => hB ?_) <;> clear hA hB A B))
          | refine WP.q ?_ | refine WP.b ?_)
        refine ⟨n - 1, by omega, i + 1, [u], by omega, by simp [h1], by simp [h12], by simp [h13], by simp, by simp; omega, by simp at hal ⊢; omega, ?_, .inr ⟨by simp, s'.nx + 1 + 1, by omega, by simp, by simp, by simp [St.get_push, V.cs]⟩⟩
        rw [hm, hmd]
        simp [Option.map_map, Function.comp_def]
      · have e0 : ¬ q = s'.nx := by omega
        have e1 : ¬ q = s'.nx + 1 := by omega
        have e2 : ¬ q = s'.nx + 1 + 1 := by omega
        have l0 : q < s'.nx + 1 + 1 := by omega
        have htl : List.take acc.length (acc.map V.cs) = acc.map V.cs := List.take_of_length_le (by simp)
        have hby : (acc.length + 1) * 32 ≤ 140737488355328 := by omega
        repeat' (first
          | refine WP.t ?_ | refine WP.k ?_ | refine WP.e ?_ | refine Qn ?_ | refine Qr ?_ | refine Qe ?_ | refine Bn ?_ | refine Br ?_ | refine Be ?_ | refine Bx (by decide) ?_
          | (refine RS.nl ?_; refine hk _ _ ?_; clear hk k)
          | ((first | refine RS.st fun A B hA hB => ?_ | refine RQ.st fun A B hA hB => ?_); simp [F11, Fns.addN, nrm, nrm0, h1, h6, h12, h13, h14, hlt, hi, ha, hat, hw, huT, huP, hel, hv, tupV_some, F10, Tm.cs, V.cs, hqr, e0, e1, e2, l0, htl, hby, onW_t, onW_f, onV_s]; first | ((first | refine hA _ _ _ ?_ ?_ | refine hA _ _ _ ?_ (by first | exact .inl rfl | exact .inr (by decide)) ?_); (focus (simp [F11, Fns.addN, nrm, nrm0, h1, h6, h12, h13, h14, hlt, hi, ha, hat, hw, huT, huP, hel, hv, tupV_some, F10, Tm.cs, V.cs, hqr, e0, e1, e2, l0, htl, hby] <;> omega)); clear hA hB A B) | (refine hB ?_; clear hA hB A B) | (refine onV_if ?_ ?_; (focus (first | omega | (refine ⟨?_, ?_⟩ <;> omega))); simp only [onV_s]; (first | refine hA _ _ _ ?_ ?_ | refine hA _ _ _ ?_ (by first | exact .inl rfl | exact .inr (by decide)) ?_); (focus (simp [F11, Fns.addN, nrm, nrm0, h1, h6, h12, h13, h14, hlt, hi, ha, hat, hw, huT, huP, hel, hv, tupV_some, F10, Tm.cs, V.cs, hqr, e0, e1, e2, l0, htl, hby] <;> omega)); clear hA hB A B))
          | (refine RQ.nl ?_; refine hk _ _ ?_; clear hk k)
          | refine WP.sr fun k hk => ?_ | refine WP.r fun k hk => ?_
          | refine WP.sd _ rfl fun k hk => ?_ | refine WP.d _ rfl fun k hk => ?_
          | (refine WP.cc fun A B hA hB => ?_; simp [F11, Fns.addN, nrm, nrm0, h1, h6, h12, h13, h14, hlt, hi, ha, hat, hw, huT, huP, hel, hv, tupV_some, F10, Tm.cs, V.cs, hqr, e0, e1, e2, l0, htl, hby, onB_t, onB_f]; first | (refine hA ?_; clear hA hB A B) | (refine hB ?_; clear hA hB A B) | (refine onB_if (fun h => hA ?_) (fun h => hB ?_) <;> clear hA hB A B))
          | refine WP.q ?_ | refine WP.b ?_)
        refine ⟨n - 1, by omega, i + 1, acc ++ [u], by omega, by simp [h1], by simp [h12], by simp [h13], by simp, by simp; omega, by simp; omega, ?_, .inr ⟨by simp, s'.nx + 1 + 1, by omega, by simp, by simp, by simp [St.get_push, V.cs]⟩⟩
        rw [hm, hmd]
        simp [Option.map_map, Function.comp_def]
  · have hlt : ¬ ((i : Int) < (a.length : Int)) := by omega
    have hm2 : groundE e a = some acc := by
      rw [hm, List.drop_eq_nil_of_le (by omega)]; simp [groundE]
    repeat' (first
      | refine WP.t ?_ | refine WP.k ?_ | refine WP.e ?_ | refine Qn ?_ | refine Qr ?_ | refine Qe ?_ | refine Bn ?_ | refine Br ?_ | refine Be ?_ | refine Bx (by decide) ?_
      | (refine RS.nl ?_; refine hk _ _ ?_; clear hk k)
      | ((first | refine RS.st fun A B hA hB => ?_ | refine RQ.st fun A B hA hB => ?_); simp [h1, h12, h13, h14, hlt, onW_t, onW_f, onV_s]; first | ((first | refine hA _ _ _ ?_ ?_ | refine hA _ _ _ ?_ (by first | exact .inl rfl | exact .inr (by decide)) ?_); (focus (simp [h1, h12, h13, h14, hlt] <;> omega)); clear hA hB A B) | (refine hB ?_; clear hA hB A B) | (refine onV_if ?_ ?_; (focus (first | omega | (refine ⟨?_, ?_⟩ <;> omega))); simp only [onV_s]; (first | refine hA _ _ _ ?_ ?_ | refine hA _ _ _ ?_ (by first | exact .inl rfl | exact .inr (by decide)) ?_); (focus (simp [h1, h12, h13, h14, hlt] <;> omega)); clear hA hB A B))
      | (refine RQ.nl ?_; refine hk _ _ ?_; clear hk k)
      | refine WP.sr fun k hk => ?_ | refine WP.r fun k hk => ?_
      | refine WP.sd _ rfl fun k hk => ?_ | refine WP.d _ rfl fun k hk => ?_
      | (refine WP.cc fun A B hA hB => ?_; simp [h1, h12, h13, h14, hlt, onB_t, onB_f]; first | (refine hA ?_; clear hA hB A B) | (refine hB ?_; clear hA hB A B) | (refine onB_if (fun h => hA ?_) (fun h => hB ?_) <;> clear hA hB A B))
      | refine WP.q ?_ | refine WP.b ?_)
    rw [hm2]
    rcases hB with ⟨rfl, h6⟩ | ⟨hne0, q, hq1, hq2, h6, hqr⟩
    · exact ⟨.inr rfl, .tup [.nsl, .bool true], by simp [h6], frz_tup2 .nil (.same _ (by simp))⟩
    · exact ⟨.inr rfl, .tup [.ls q 0 acc.length, .bool true], by simp [h6], frz_tup2 (frz_sl cV hqr hq1 rfl) (.same _ (by simp))⟩
set_option maxHeartbeats 4000000 in
theorem ft_SHolds (l : Lit) (e : Envr) (hel : e.length < LIM) : FT (env K gw) NoW 92 [.agg l.cs, .sl (e.map Pr.cs)] s (.tup [.bool (holdsE l e).1, .bool (holdsE l e).2]) s := by
  obtain ⟨kd, ⟨p, a⟩, op, t1, t2⟩ := l
  have huT := fun (t : Tm) => show cTm.un [.bool t.b, .str t.k, .bool t.v.b, .str t.v.s, .int .i64 t.v.n] = some t from rfl
  have huV := fun (v : V) => show cV.un [.bool v.b, .str v.s, .int .i64 v.n] = some v from rfl
  have huP := unL_Pr e
  have hd : holdsE ⟨kd, ⟨p, a⟩, op, t1, t2⟩ e = match valT t1 e, valT t2 e with
    | some a, some b => if kd = 3 then opH op (cmpV a b) else (false, false)
    | _, _ => (false, false) := rfl
  refine FT.pure (fn := Tryz.f92) F11_ok mixed Tryz.func92 (by kernel_rfl) (by rfl) rfl rfl (by simp) rfl fun μ w => ?_
  cases hv1 : valT t1 e with
  | none =>
    rw [hv1] at hd
    cases hv2 : valT t2 e with
    | none =>
      rw [hd]
      rcases Bool.eq_false_or_eq_true (kd != 3) with hk0 | hk0
      all_goals
        repeat' (first
          | refine WP.t ?_ | refine WP.k ?_ | refine WP.e ?_ | refine Qn ?_ | refine Qr ?_ | refine Qe ?_ | refine Bn ?_ | refine Br ?_ | refine Be ?_ | refine Bx (by decide) ?_
          | (refine RS.nl ?_; refine hk _ _ ?_; clear hk k)
          | ((first | refine RS.st fun A B hA hB => ?_ | refine RQ.st fun A B hA hB => ?_); simp [F11, Fns.addN, nrm, nrm0, huT, huP, hel, hv1, hv2, hk0, tupV_none, tupV_some, F10, Lit.cs, V.cs, onW_t, onW_f, onV_s]; first | ((first | refine hA _ _ _ ?_ ?_ | refine hA _ _ _ ?_ (by first | exact .inl rfl | exact .inr (by decide)) ?_); (focus (simp [F11, Fns.addN, nrm, nrm0, huT, huP, hel, hv1, hv2, hk0, tupV_none, tupV_some, F10, Lit.cs, V.cs] <;> omega)); clear hA hB A B) | (refine hB ?_; clear hA hB A B) | (refine onV_if ?_ ?_; (focus (first | omega | (refine ⟨?_, ?_⟩ <;> omega))); simp only [onV_s]; (first | refine hA _ _ _ ?_ ?_ | refine hA _ _ _ ?_ (by first | exact .inl rfl | exact .inr (by decide)) ?_); (focus (simp [F11, Fns.addN, nrm, nrm0, huT, huP, hel, hv1, hv2, hk0, tupV_none, tupV_some, F10, Lit.cs, V.cs] <;> omega)); clear hA hB A B))
          | (refine RQ.nl ?_; refine hk _ _ ?_; clear hk k)
          | refine WP.sr fun k hk => ?_ | refine WP.r fun k hk => ?_
          | refine WP.sd _ rfl fun k hk => ?_ | refine WP.d _ rfl fun k hk => ?_
          | (refine WP.cc fun A B hA hB => ?_; simp [F11, Fns.addN, nrm, nrm0, huT, huP, hel, hv1, hv2, hk0, tupV_none, tupV_some, F10, Lit.cs, V.cs, onB_t, onB_f]; first | (refine hA ?_; clear hA hB A B) | (refine hB ?_; clear hA hB A B) | (refine onB_if (fun h => hA ?_) (fun h => hB ?_) <;> clear hA hB A B))
          | refine WP.q ?_ | refine WP.b ?_)
        simp
    | some u2 =>
      rw [hd]
      rcases Bool.eq_false_or_eq_true (kd != 3) with hk0 | hk0
      all_goals
        repeat' (first
          | refine WP.t ?_ | refine WP.k ?_ | refine WP.e ?_ | refine Qn ?_ | refine Qr ?_ | refine Qe ?_ | refine Bn ?_ | refine Br ?_ | refine Be ?_ | refine Bx (by decide) ?_
          | (refine RS.nl ?_; refine hk _ _ ?_; clear hk k)
          | ((first | refine RS.st fun A B hA hB => ?_ | refine RQ.st fun A B hA hB => ?_); simp [F11, Fns.addN, nrm, nrm0, huT, huP, hel, hv1, hv2, hk0, tupV_none, tupV_some, F10, Lit.cs, V.cs, onW_t, onW_f, onV_s]; first | ((first | refine hA _ _ _ ?_ ?_ | refine hA _ _ _ ?_ (by first | exact .inl rfl | exact .inr (by decide)) ?_); (focus (simp [F11, Fns.addN, nrm, nrm0, huT, huP, hel, hv1, hv2, hk0, tupV_none, tupV_some, F10, Lit.cs, V.cs] <;> omega)); clear hA hB A B) | (refine hB ?_; clear hA hB A B) | (refine onV_if ?_ ?_; (focus (first | omega | (refine ⟨?_, ?_⟩ <;> omega))); simp only [onV_s]; (first | refine hA _ _ _ ?_ ?_ | refine hA _ _ _ ?_ (by first | exact .inl rfl | exact .inr (by decide)) ?_); (focus (simp [F11, Fns.addN, nrm, nrm0, huT, huP, hel, hv1, hv2, hk0, tupV_none, tupV_some, F10, Lit.cs, V.cs] <;> omega)); clear hA hB A B))
          | (refine RQ.nl ?_; refine hk _ _ ?_; clear hk k)
          | refine WP.sr fun k hk => ?_ | refine WP.r fun k hk => ?_
          | refine WP.sd _ rfl fun k hk => ?_ | refine WP.d _ rfl fun k hk => ?_
          | (refine WP.cc fun A B hA hB => ?_; simp [F11, Fns.addN, nrm, nrm0, huT, huP, hel, hv1, hv2, hk0, tupV_none, tupV_some, F10, Lit.cs, V.cs, onB_t, onB_f]; first | (refine hA ?_; clear hA hB A B) | (refine hB ?_; clear hA hB A B) | (refine onB_if (fun h => hA ?_) (fun h => hB ?_) <;> clear hA hB A B))
          | refine WP.q ?_ | refine WP.b ?_)
        simp
  | some u1 =>
    rw [hv1] at hd
    cases hv2 : valT t2 e with
    | none =>
      rw [hv2] at hd
      rw [hd]
      rcases Bool.eq_false_or_eq_true (kd != 3) with hk0 | hk0
      all_goals
        repeat' (first
          | refine WP.t ?_ | refine WP.k ?_ | refine WP.e ?_ | refine Qn ?_ | refine Qr ?_ | refine Qe ?_ | refine Bn ?_ | refine Br ?_ | refine Be ?_ | refine Bx (by decide) ?_
          | (refine RS.nl ?_; refine hk _ _ ?_; clear hk k)
          | ((first | refine RS.st fun A B hA hB => ?_ | refine RQ.st fun A B hA hB => ?_); simp [F11, Fns.addN, nrm, nrm0, huT, huP, hel, hv1, hv2, hk0, tupV_none, tupV_some, F10, Lit.cs, V.cs, onW_t, onW_f, onV_s]; first | ((first | refine hA _ _ _ ?_ ?_ | refine hA _ _ _ ?_ (by first | exact .inl rfl | exact .inr (by decide)) ?_); (focus (simp [F11, Fns.addN, nrm, nrm0, huT, huP, hel, hv1, hv2, hk0, tupV_none, tupV_some, F10, Lit.cs, V.cs] <;> omega)); clear hA hB A B) | (refine hB ?_; clear hA hB A B) | (refine onV_if ?_ ?_; (focus (first | omega | (refine ⟨?_, ?_⟩ <;> omega))); simp only [onV_s]; (first | refine hA _ _ _ ?_ ?_ | refine hA _ _ _ ?_ (by first | exact .inl rfl | exact .inr (by decide)) ?_); (focus (simp [F11, Fns.addN, nrm, nrm0, huT, huP, hel, hv1, hv2, hk0, tupV_none, tupV_some, F10, Lit.cs, V.cs] <;> omega)); clear hA hB A B))
          | (refine RQ.nl ?_; refine hk _ _ ?_; clear hk k)
          | refine WP.sr fun k hk => ?_ | refine WP.r fun k hk => ?_
          | refine WP.sd _ rfl fun k hk => ?_ | refine WP.d _ rfl fun k hk => ?_
          | (refine WP.cc fun A B hA hB => ?_; simp [F11, Fns.addN, nrm, nrm0, huT, huP, hel, hv1, hv2, hk0, tupV_none, tupV_some, F10, Lit.cs, V.cs, onB_t, onB_f]; first | (refine hA ?_; clear hA hB A B) | (refine hB ?_; clear hA hB A B) | (refine onB_if (fun h => hA ?_) (fun h => hB ?_) <;> clear hA hB A B))
          | refine WP.q ?_ | refine WP.b ?_)
        simp
    | some u2 =>
      rw [hv2] at hd
      simp only at hd
      cases hk0 : (kd != 3) with
      | true =>
        rw [if_neg (by simpa using hk0)] at hd
        rw [hd]
        repeat' (first
          | refine WP.t ?_ | refine WP.k ?_ | refine WP.e ?_ | refine Qn ?_ | refine Qr ?_ | refine Qe ?_ | refine Bn ?_ | refine Br ?_ | refine Be ?_ | refine Bx (by decide) ?_
          | (refine RS.nl ?_; refine hk _ _ ?_; clear hk k)
          | ((first | refine RS.st fun A B hA hB => ?_ | refine RQ.st fun A B hA hB => ?_); simp [F11, Fns.addN, nrm, nrm0, huT, huP, hel, hv1, hv2, hk0, tupV_none, tupV_some, F10, Lit.cs, V.cs, onW_t, onW_f, onV_s]; first | ((first | refine hA _ _ _ ?_ ?_ | refine hA _ _ _ ?_ (by first | exact .inl rfl | exact .inr (by decide)) ?_); (focus (simp [F11, Fns.addN, nrm, nrm0, huT, huP, hel, hv1, hv2, hk0, tupV_none, tupV_some, F10, Lit.cs, V.cs] <;> omega)); clear hA hB A B) | (refine hB ?_; clear hA hB A B) | (refine onV_if ?_ ?_; (focus (first | omega | (refine ⟨?_, ?_⟩ <;> omega))); simp only [onV_s]; (first | refine hA _ _ _ ?_ ?_ | refine hA _ _ _ ?_ (by first | exact .inl rfl | exact .inr (by decide)) ?_); (focus (simp [F11, Fns.addN, nrm, nrm0, huT, huP, hel, hv1, hv2, hk0, tupV_none, tupV_some, F10, Lit.cs, V.cs] <;> omega)); clear hA hB A B))
          | (refine RQ.nl ?_; refine hk _ _ ?_; clear hk k)
          | refine WP.sr fun k hk => ?_ | refine WP.r fun k hk => ?_
          | refine WP.sd _ rfl fun k hk => ?_ | refine WP.d _ rfl fun k hk => ?_
          | (refine WP.cc fun A B hA hB => ?_; simp [F11, Fns.addN, nrm, nrm0, huT, huP, hel, hv1, hv2, hk0, tupV_none, tupV_some, F10, Lit.cs, V.cs, onB_t, onB_f]; first | (refine hA ?_; clear hA hB A B) | (refine hB ?_; clear hA hB A B) | (refine onB_if (fun h => hA ?_) (fun h => hB ?_) <;> clear hA hB A B))
          | refine WP.q ?_ | refine WP.b ?_)
        simp
      | false =>
        rw [if_pos (by simpa using hk0)] at hd
        rw [hd]
        repeat' (first
          | refine WP.t ?_ | refine WP.k ?_ | refine WP.e ?_ | refine Qn ?_ | refine Qr ?_ | refine Qe ?_ | refine Bn ?_ | refine Br ?_ | refine Be ?_ | refine Bx (by decide) ?_
          | (refine RS.nl ?_; refine hk _ _ ?_; clear hk k)
          | ((first | refine RS.st fun A B hA hB => ?_ | refine RQ.st fun A B hA hB => ?_); simp [F11, Fns.addN, nrm, nrm0, huT, huP, huV, hel, hv1, hv2, hk0, tupV_none, tupV_some, F10, F9, F8, F7, F6, F5, F4c, Lit.cs, V.cs, onW_t, onW_f, onV_s]; first | ((first | refine hA _ _ _ ?_ ?_ | refine hA _ _ _ ?_ (by first | exact .inl rfl | exact .inr (by decide)) ?_); (focus (simp [F11, Fns.addN, nrm, nrm0, huT, huP, huV, hel, hv1, hv2, hk0, tupV_none, tupV_some, F10, F9, F8, F7, F6, F5, F4c, Lit.cs, V.cs] <;> omega)); clear hA hB A B) | (refine hB ?_; clear hA hB A B) | (refine onV_if ?_ ?_; (focus (first | omega | (refine ⟨?_, ?_⟩ <;> omega))); simp only [onV_s]; (first | refine hA _ _ _ ?_ ?_ | refine hA _ _ _ ?_ (by first | exact .inl rfl | exact .inr (by decide)) ?_); (focus (simp [F11, Fns.addN, nrm, nrm0, huT, huP, huV, hel, hv1, hv2, hk0, tupV_none, tupV_some, F10, F9, F8, F7, F6, F5, F4c, Lit.cs, V.cs] <;> omega)); clear hA hB A B))
          | (refine RQ.nl ?_; refine hk _ _ ?_; clear hk k)
          | refine WP.sr fun k hk => ?_ | refine WP.r fun k hk => ?_
          | refine WP.sd _ rfl fun k hk => ?_ | refine WP.d _ rfl fun k hk => ?_
          | (refine WP.cc fun A B hA hB => ?_; simp [F11, Fns.addN, nrm, nrm0, huT, huP, huV, hel, hv1, hv2, hk0, tupV_none, tupV_some, F10, F9, F8, F7, F6, F5, F4c, Lit.cs, V.cs, onB_t, onB_f]; first | (refine hA ?_; clear hA hB A B) | (refine hB ?_; clear hA hB A B) | (refine onB_if (fun h => hA ?_) (fun h => hB ?_) <;> clear hA hB A B))
          | refine WP.q ?_ | refine WP.b ?_)
        simp
end
end Go.Am
namespace Go.Am
open Go.Proofs
/-- A fact. -/
structure Fc where
  p : Str
  a : List V
def Fc.cs (t : Fc) : List AV := [.str t.p, .sl (t.a.map V.cs)]
def cFc : Cel Fc where
  cs := Fc.cs
  un x := match x with
    | [.str p, .sl l] => (unL cV l).map fun a => ⟨p, a⟩
    | _ => none
  sz := 2
  un_cs t := by simp [Fc.cs, unL_V]
  cs_un x a h := by
    split at h
    · obtain ⟨l, hl, rfl⟩ := Option.map_eq_some_iff.1 h
      rw [unL_eq cV _ _ hl]; rfl
    · cases h
  len _ := rfl
  bl a n x hx := by
    simp only [Fc.cs, List.mem_cons, List.mem_nil_iff, or_false] at hx
    rcases hx with rfl | rfl
    · simp
    · exact below_sl' cV n _
theorem unL_Fc (l : List Fc) : unL cFc (l.map Fc.cs) = some l := unL_map cFc l
theorem unFc (f : Fc) : cFc.un [.str f.p, .sl (f.a.map V.cs)] = some f := cFc.un_cs f
def cmpF (f g : Fc) : Int := if cmpS f.p g.p = 0 then cmpT f.a g.a else cmpS f.p g.p
section
variable {K : Nat} {gw : World} {s : St}
attribute [local simp] awanted xop zOf cz zrow aop ev T0 Slots.put Slots.set Slots.get awr WOk AV.may ofConst abinop aint isConst St.get_push St.get_put St.live AV.fit AV.cells AV.one fieldOf afieldAddr aload ofCells astore splice May eqres env_ti FinP FinZ FinW ares aresL ares1 Fns.addP Fns.add Fns.a0 Fns.a1 Fns.a2 Fns.a3 Fns.a4 abuiltin alenOk alen aindex elemOfT elemId abuildSlice afill chunks ard aappend isSS AV.isStr aminmax placesOf abuild afield aidx isStrD isStrDesc astrop aslice asliceOk abound arange anext aextract aunop aeq AV.ck avseq aveq aconv aconvert onB_t onB_f List.range_succ
def F13 : Fns := (F12.addN 90 fun xs => match xs with
  | [.agg c, .sl g] => match cAtm.un c, unL cPr g with
    | some t, some e => if t.a.length < 268435456 ∧ e.length < LIM then some (tupR (groundE e t.a)) else none
    | _, _ => none
  | _ => none).addN 92 fun xs => match xs with
  | [.agg c, .sl g] => match cLit.un c, unL cPr g with
    | some t, some e => if e.length < LIM then some (.tup [.bool (holdsE t e).1, .bool (holdsE t e).2]) else none
    | _, _ => none
  | _ => none
theorem F13_ok : FOk (env K gw) F13 := by
  refine (F12_ok.addN fun xs s r h => ?_).addN fun xs s r h => ?_
  · split at h
    · split at h
      · rename_i hc hg
        split at h
        · rename_i hl
          cases h
          rw [cAtm.cs_un _ _ hc, unL_eq cPr _ _ hg]
          exact ft_Ground _ _ hl.1 hl.2
        · cases h
      · cases h
    · cases h
  · split at h
    · split at h
      · rename_i hc hg
        split at h
        · rename_i hl
          cases h
          rw [cLit.cs_un _ _ hc, unL_eq cPr _ _ hg]
          exact ft_SHolds _ _ hl
        · cases h
      · cases h
    · cases h
theorem ft_Or (a b : Int) : FT (env K gw) NoW 60 [.sl [[.int .i64 a], [.int .i64 b]]] s (.int .i64 (if a = 0 then b else a)) s := by
  refine FT.pure (fn := Tryz.f60) F0_ok mixed Tryz.func60 (by kernel_rfl) (by rfl) rfl rfl (by simp) rfl fun μ w => ?_
  rcases Bool.eq_false_or_eq_true (a != 0) with ha | ha
  · skip
    repeat' (first
      | refine WP_unroll ?_
      | refine WP.t ?_ | refine WP.k ?_ | refine WP.e ?_ | refine Qn ?_ | refine Qr ?_ | refine Qe ?_ | refine Bn ?_ | refine Br ?_ | refine Be ?_ | refine Bx (by decide) ?_
      | (refine RS.nl ?_; refine hk _ _ ?_; clear hk k)
      | ((first | refine RS.st fun A B hA hB => ?_ | refine RQ.st fun A B hA hB => ?_); simp [ha, onW_t, onW_f, onV_s]; first | ((first | refine hA _ _ _ ?_ ?_ | refine hA _ _ _ ?_ (by first | exact .inl rfl | exact .inr (by decide)) ?_); (focus (simp [ha] <;> omega)); clear hA hB A B) | (refine hB ?_; clear hA hB A B) | (refine onV_if ?_ ?_; (focus (first | omega | (refine ⟨?_, ?_⟩ <;> omega))); simp only [onV_s]; (first | refine hA _ _ _ ?_ ?_ | refine hA _ _ _ ?_ (by first | exact .inl rfl | exact .inr (by decide)) ?_); (focus (simp [ha] <;> omega)); clear hA hB A B))
      | (refine RQ.nl ?_; refine hk _ _ ?_; clear hk k)
      | refine WP.sr fun k hk => ?_ | refine WP.r fun k hk => ?_
      | refine WP.sd _ rfl fun k hk => ?_ | refine WP.d _ rfl fun k hk => ?_
      | (refine WP.cc fun A B hA hB => ?_; simp [ha, onB_t, onB_f]; first | (refine hA ?_; clear hA hB A B) | (refine hB ?_; clear hA hB A B) | (refine onB_if (fun h => hA ?_) (fun h => hB ?_) <;> clear hA hB A B))
      | refine WP.q ?_ | refine WP.b ?_)
    simp at ha
    simp [ha]
  · have ha' : a = 0 := by simpa using ha
    subst ha'
    rcases Bool.eq_false_or_eq_true (b != 0) with hb | hb
    · skip
      repeat' (first
        | refine WP_unroll ?_
        | refine WP.t ?_ | refine WP.k ?_ | refine WP.e ?_ | refine Qn ?_ | refine Qr ?_ | refine Qe ?_ | refine Bn ?_ | refine Br ?_ | refine Be ?_ | refine Bx (by decide) ?_
        | (refine RS.nl ?_; refine hk _ _ ?_; clear hk k)
        | ((first | refine RS.st fun A B hA hB => ?_ | refine RQ.st fun A B hA hB => ?_); simp [hb, onW_t, onW_f, onV_s]; first | ((first | refine hA _ _ _ ?_ ?_ | refine hA _ _ _ ?_ (by first | exact .inl rfl | exact .inr (by decide)) ?_); (focus (simp [hb] <;> omega)); clear hA hB A B) | (refine hB ?_; clear hA hB A B) | (refine onV_if ?_ ?_; (focus (first | omega | (refine ⟨?_, ?_⟩ <;> omega))); simp only [onV_s]; (first | refine hA _ _ _ ?_ ?_ | refine hA _ _ _ ?_ (by first | exact .inl rfl | exact .inr (by decide)) ?_); (focus (simp [hb] <;> omega)); clear hA hB A B))
        | (refine RQ.nl ?_; refine hk _ _ ?_; clear hk k)
        | refine WP.sr fun k hk => ?_ | refine WP.r fun k hk => ?_
        | refine WP.sd _ rfl fun k hk => ?_ | refine WP.d _ rfl fun k hk => ?_
        | (refine WP.cc fun A B hA hB => ?_; simp [hb, onB_t, onB_f]; first | (refine hA ?_; clear hA hB A B) | (refine hB ?_; clear hA hB A B) | (refine onB_if (fun h => hA ?_) (fun h => hB ?_) <;> clear hA hB A B))
        | refine WP.q ?_ | refine WP.b ?_)
      simp
    · have hb' : b = 0 := by simpa using hb
      subst hb'
      repeat' (first
        | refine WP_unroll ?_
        | refine WP.t ?_ | refine WP.k ?_ | refine WP.e ?_ | refine Qn ?_ | refine Qr ?_ | refine Qe ?_ | refine Bn ?_ | refine Br ?_ | refine Be ?_ | refine Bx (by decide) ?_
        | (refine RS.nl ?_; refine hk _ _ ?_; clear hk k)
        | ((first | refine RS.st fun A B hA hB => ?_ | refine RQ.st fun A B hA hB => ?_); simp [onW_t, onW_t, onW_f, onV_s]; first | ((first | refine hA _ _ _ ?_ ?_ | refine hA _ _ _ ?_ (by first | exact .inl rfl | exact .inr (by decide)) ?_); (focus (simp [onW_t] <;> omega)); clear hA hB A B) | (refine hB ?_; clear hA hB A B) | (refine onV_if ?_ ?_; (focus (first | omega | (refine ⟨?_, ?_⟩ <;> omega))); simp only [onV_s]; (first | refine hA _ _ _ ?_ ?_ | refine hA _ _ _ ?_ (by first | exact .inl rfl | exact .inr (by decide)) ?_); (focus (simp [onW_t] <;> omega)); clear hA hB A B))
        | (refine RQ.nl ?_; refine hk _ _ ?_; clear hk k)
        | refine WP.sr fun k hk => ?_ | refine WP.r fun k hk => ?_
        | refine WP.sd _ rfl fun k hk => ?_ | refine WP.d _ rfl fun k hk => ?_
        | (refine WP.cc fun A B hA hB => ?_; simp [onW_t, onB_t, onB_f]; first | (refine hA ?_; clear hA hB A B) | (refine hB ?_; clear hA hB A B) | (refine onB_if (fun h => hA ?_) (fun h => hB ?_) <;> clear hA hB A B))
        | refine WP.q ?_ | refine WP.b ?_)
      simp
def pOr : List AV → Option AV
  | [.sl [[.int .i64 a], [.int .i64 b]]] => some (.int .i64 (if a = 0 then b else a))
  | _ => none
def F14 : Fns := F13.addP 60 pOr
theorem F14_ok : FOk (env K gw) F14 := by
  refine F13_ok.addP fun xs s r h => ?_
  unfold pOr at h
  split at h <;> cases h
  exact ft_Or _ _
theorem ft_JCompare (f g : Fc) (hf : f.a.length < LIM) (hg : g.a.length < LIM) : FT (env K gw) NoW 37 [.agg f.cs, .agg g.cs] s (.int .i64 (cmpF f g)) s := by
  obtain ⟨p, a⟩ := f
  obtain ⟨p', a'⟩ := g
  simp only at hf hg
  refine FT.pure (fn := Tryz.f37) F14_ok mixed Tryz.func37 (by kernel_rfl) (by rfl) rfl rfl (by simp) rfl fun μ w => ?_
  repeat' (first
    | refine WP.t ?_ | refine WP.k ?_ | refine WP.e ?_ | refine Qn ?_ | refine Qr ?_ | refine Qe ?_ | refine Bn ?_ | refine Br ?_ | refine Be ?_ | refine Bx (by decide) ?_
    | (refine RS.nl ?_; refine hk _ _ ?_; clear hk k)
    | ((first | refine RS.st fun A B hA hB => ?_ | refine RQ.st fun A B hA hB => ?_); simp [F14, F13, F12, F11, Fns.addN, F10, F9, F8, F7, F6, F5, F4c, F4b, F4a, F4, F3, F2, pOr, pCmpS, pCmpT, hf, hg, Fc.cs, onW_t, onW_f, onV_s]; first | ((first | refine hA _ _ _ ?_ ?_ | refine hA _ _ _ ?_ (by first | exact .inl rfl | exact .inr (by decide)) ?_); (focus (simp [F14, F13, F12, F11, Fns.addN, F10, F9, F8, F7, F6, F5, F4c, F4b, F4a, F4, F3, F2, pOr, pCmpS, pCmpT, hf, hg, Fc.cs] <;> omega)); clear hA hB A B) | (refine hB ?_; clear hA hB A B) | (refine onV_if ?_ ?_; (focus (first | omega | (refine ⟨?_, ?_⟩ <;> omega))); simp only [onV_s]; (first | refine hA _ _ _ ?_ ?_ | refine hA _ _ _ ?_ (by first | exact .inl rfl | exact .inr (by decide)) ?_); (focus (simp [F14, F13, F12, F11, Fns.addN, F10, F9, F8, F7, F6, F5, F4c, F4b, F4a, F4, F3, F2, pOr, pCmpS, pCmpT, hf, hg, Fc.cs] <;> omega)); clear hA hB A B))
    | (refine RQ.nl ?_; refine hk _ _ ?_; clear hk k)
    | refine WP.sr fun k hk => ?_ | refine WP.r fun k hk => ?_
    | refine WP.sd _ rfl fun k hk => ?_ | refine WP.d _ rfl fun k hk => ?_
    | (refine WP.cc fun A B hA hB => ?_; simp [F14, F13, F12, F11, Fns.addN, F10, F9, F8, F7, F6, F5, F4c, F4b, F4a, F4, F3, F2, pOr, pCmpS, pCmpT, hf, hg, Fc.cs, onB_t, onB_f]; first | (refine hA ?_; clear hA hB A B) | (refine hB ?_; clear hA hB A B) | (refine onB_if (fun h => hA ?_) (fun h => hB ?_) <;> clear hA hB A B))
    | refine WP.q ?_ | refine WP.b ?_)
  simp [cmpF]
def F15 : Fns := F14.a2 37 (vAgg cFc) (vAgg cFc) fun f g => if f.a.length < LIM ∧ g.a.length < LIM then some (.int .i64 (cmpF f g)) else none
theorem F15_ok : FOk (env K gw) F15 := F14_ok.a2 fun f g s r h => by
  split at h
  · rename_i hl; cases h; exact ft_JCompare f g hl.1 hl.2
  · cases h
/-! ### a fact among facts -/
theorem ft_IdxFc {F : Fns} (hF : FOk (env K gw) F) (g : FuncId) (cap : List AV) (p : Fc → Bool) (l : List Fc) (hl : l.length < LIM) (hp : ∀ x ∈ l, F g (.agg x.cs :: cap) s = some (.bool (p x), s, [])) :
    FT (env K gw) NoW 59 [.sl (l.map Fc.cs), .fn (.func g) [] cap] s (.int .i64 (ixI (l.findIdx? p))) s := by
  refine FT.pure (fn := Tryz.f59) hF mixed Tryz.func59 (by kernel_rfl) (by rfl) rfl rfl (by simp) rfl fun μ w => ?_
  repeat' (first
    | refine WP.t ?_ | refine WP.k ?_ | refine WP.e ?_ | refine Qn ?_ | refine Qr ?_ | refine Qe ?_ | refine Bn ?_ | refine Br ?_ | refine Be ?_ | refine Bx (by decide) ?_
    | (refine RS.nl ?_; refine hk _ _ ?_; clear hk k)
    | ((first | refine RS.st fun A B hA hB => ?_ | refine RQ.st fun A B hA hB => ?_); simp [onW_t, onW_t, onW_f, onV_s]; first | ((first | refine hA _ _ _ ?_ ?_ | refine hA _ _ _ ?_ (by first | exact .inl rfl | exact .inr (by decide)) ?_); (focus (simp [onW_t] <;> omega)); clear hA hB A B) | (refine hB ?_; clear hA hB A B) | (refine onV_if ?_ ?_; (focus (first | omega | (refine ⟨?_, ?_⟩ <;> omega))); simp only [onV_s]; (first | refine hA _ _ _ ?_ ?_ | refine hA _ _ _ ?_ (by first | exact .inl rfl | exact .inr (by decide)) ?_); (focus (simp [onW_t] <;> omega)); clear hA hB A B))
    | (refine RQ.nl ?_; refine hk _ _ ?_; clear hk k)
    | refine WP.sr fun k hk => ?_ | refine WP.r fun k hk => ?_
    | refine WP.sd _ rfl fun k hk => ?_ | refine WP.d _ rfl fun k hk => ?_
    | (refine WP.cc fun A B hA hB => ?_; simp [onW_t, onB_t, onB_f]; first | (refine hA ?_; clear hA hB A B) | (refine hB ?_; clear hA hB A B) | (refine onB_if (fun h => hA ?_) (fun h => hB ?_) <;> clear hA hB A B))
    | refine WP.q ?_ | refine WP.b ?_)
  refine WP_loop (fun n T s' => ∃ i : Nat, n + i = l.length ∧ s' = s ∧ T.get 0 = .sl (l.map Fc.cs) ∧ T.get 1 = .fn (.func g) [] cap ∧ T.get 7 = .int .i64 l.length ∧ T.get 8 = .int .i64 i ∧ ∀ j (hj : j < l.length), j < i → p l[j] = false) l.length ⟨0, by simp, rfl, by simp, by simp, by simp, by simp, fun j hj h => by omega⟩ ?_
  rintro n T s' ⟨i, hn, rfl, h0, h1, h7, h8, hb⟩
  by_cases hi : i < l.length
  · have hw : IntKind.i64.wrap ((i : Int) + 1) = (i : Int) + 1 := wrap64 (by omega) (by simp only [LIM] at hl; omega)
    have ha : l[i]? = some l[i] := List.getElem?_eq_getElem hi
    have hlt : ((i : Int) < (l.length : Int)) := by omega
    have hpi := hp l[i] (List.getElem_mem hi)
    generalize hx : l[i] = x at *
    cases hpx : p x with
    | true =>
      rw [hpx] at hpi
      have hf := find_some (p := p) hi (by rw [hx]; exact hpx) hb
      simp only [Fc.cs] at hpi
      repeat' (first
        | refine WP.t ?_ | refine WP.k ?_ | refine WP.e ?_ | refine Qn ?_ | refine Qr ?_ | refine Qe ?_ | refine Bn ?_ | refine Br ?_ | refine Be ?_ | refine Bx (by decide) ?_
        | (refine RS.nl ?_; refine hk _ _ ?_; clear hk k)
        | ((first | refine RS.st fun A B hA hB => ?_ | refine RQ.st fun A B hA hB => ?_); simp [h0, h1, h7, h8, hlt, hi, ha, hx, hw, hpi, Fc.cs, onW_t, onW_f, onV_s]; first | ((first | refine hA _ _ _ ?_ ?_ | refine hA _ _ _ ?_ (by first | exact .inl rfl | exact .inr (by decide)) ?_); (focus (simp [h0, h1, h7, h8, hlt, hi, ha, hx, hw, hpi, Fc.cs] <;> omega)); clear hA hB A B) | (refine hB ?_; clear hA hB A B) | (refine onV_if ?_ ?_; (focus (first | omega | (refine ⟨?_, ?_⟩ <;> omega))); simp only [onV_s]; (first | refine hA _ _ _ ?_ ?_ | refine hA _ _ _ ?_ (by first | exact .inl rfl | exact .inr (by decide)) ?_); (focus (simp [h0, h1, h7, h8, hlt, hi, ha, hx, hw, hpi, Fc.cs] <;> omega)); clear hA hB A B))
        | (refine RQ.nl ?_; refine hk _ _ ?_; clear hk k)
        | refine WP.sr fun k hk => ?_ | refine WP.r fun k hk => ?_
        | refine WP.sd _ rfl fun k hk => ?_ | refine WP.d _ rfl fun k hk => ?_
        | (refine WP.cc fun A B hA hB => ?_; simp [h0, h1, h7, h8, hlt, hi, ha, hx, hw, hpi, Fc.cs, onB_t, onB_f]; first | (refine hA ?_; clear hA hB A B) | (refine hB ?_; clear hA hB A B) | (refine onB_if (fun h => hA ?_) (fun h => hB ?_) <;> clear hA hB A B))
        | refine WP.q ?_ | refine WP.b ?_)
      simp [hf, ixI]
    | false =>
      rw [hpx] at hpi
      simp only [Fc.cs] at hpi
      repeat' (first
        | refine WP.t ?_ | refine WP.k ?_ | refine WP.e ?_ | refine Qn ?_ | refine Qr ?_ | refine Qe ?_ | refine Bn ?_ | refine Br ?_ | refine Be ?_ | refine Bx (by decide) ?_
        | (refine RS.nl ?_; refine hk _ _ ?_; clear hk k)
        | ((first | refine RS.st fun A B hA hB => ?_ | refine RQ.st fun A B hA hB => ?_); simp [h0, h1, h7, h8, hlt, hi, ha, hx, hw, hpi, Fc.cs, onW_t, onW_f, onV_s]; first | ((first | refine hA _ _ _ ?_ ?_ | refine hA _ _ _ ?_ (by first | exact .inl rfl | exact .inr (by decide)) ?_); (focus (simp [h0, h1, h7, h8, hlt, hi, ha, hx, hw, hpi, Fc.cs] <;> omega)); clear hA hB A B) | (refine hB ?_; clear hA hB A B) | (refine onV_if ?_ ?_; (focus (first | omega | (refine ⟨?_, ?_⟩ <;> omega))); simp only [onV_s]; (first | refine hA _ _ _ ?_ ?_ | refine hA _ _ _ ?_ (by first | exact .inl rfl | exact .inr (by decide)) ?_); (focus (simp [h0, h1, h7, h8, hlt, hi, ha, hx, hw, hpi, Fc.cs] <;> omega)); clear hA hB A B))
        | (refine RQ.nl ?_; refine hk _ _ ?_; clear hk k)
        | refine WP.sr fun k hk => ?_ | refine WP.r fun k hk => ?_
        | refine WP.sd _ rfl fun k hk => ?_ | refine WP.d _ rfl fun k hk => ?_
        | (refine WP.cc fun A B hA hB => ?_; simp [h0, h1, h7, h8, hlt, hi, ha, hx, hw, hpi, Fc.cs, onB_t, onB_f]; first | (refine hA ?_; clear hA hB A B) | (refine hB ?_; clear hA hB A B) | (refine onB_if (fun h => hA ?_) (fun h => hB ?_) <;> clear hA hB A B))
        | refine WP.q ?_ | refine WP.b ?_)
      refine ⟨n - 1, by omega, i + 1, by omega, rfl, by simp [h0], by simp [h1], by simp [h7], by simp, fun j hj hji => ?_⟩
      by_cases e : j = i
      · subst e; rw [hx]; exact hpx
      · exact hb j hj (by omega)
  · have hlt : ¬ ((i : Int) < (l.length : Int)) := by omega
    have hf := find_none (p := p) (l := l) fun j hj => hb j hj (by omega)
    repeat' (first
      | refine WP.t ?_ | refine WP.k ?_ | refine WP.e ?_ | refine Qn ?_ | refine Qr ?_ | refine Qe ?_ | refine Bn ?_ | refine Br ?_ | refine Be ?_ | refine Bx (by decide) ?_
      | (refine RS.nl ?_; refine hk _ _ ?_; clear hk k)
      | ((first | refine RS.st fun A B hA hB => ?_ | refine RQ.st fun A B hA hB => ?_); simp [h0, h1, h7, h8, hlt, onW_t, onW_f, onV_s]; first | ((first | refine hA _ _ _ ?_ ?_ | refine hA _ _ _ ?_ (by first | exact .inl rfl | exact .inr (by decide)) ?_); (focus (simp [h0, h1, h7, h8, hlt] <;> omega)); clear hA hB A B) | (refine hB ?_; clear hA hB A B) | (refine onV_if ?_ ?_; (focus (first | omega | (refine ⟨?_, ?_⟩ <;> omega))); simp only [onV_s]; (first | refine hA _ _ _ ?_ ?_ | refine hA _ _ _ ?_ (by first | exact .inl rfl | exact .inr (by decide)) ?_); (focus (simp [h0, h1, h7, h8, hlt] <;> omega)); clear hA hB A B))
      | (refine RQ.nl ?_; refine hk _ _ ?_; clear hk k)
      | refine WP.sr fun k hk => ?_ | refine WP.r fun k hk => ?_
      | refine WP.sd _ rfl fun k hk => ?_ | refine WP.d _ rfl fun k hk => ?_
      | (refine WP.cc fun A B hA hB => ?_; simp [h0, h1, h7, h8, hlt, onB_t, onB_f]; first | (refine hA ?_; clear hA hB A B) | (refine hB ?_; clear hA hB A B) | (refine onB_if (fun h => hA ?_) (fun h => hB ?_) <;> clear hA hB A B))
      | refine WP.q ?_ | refine WP.b ?_)
    simp [hf, ixI]
theorem ft_IdxLit {F : Fns} (hF : FOk (env K gw) F) (g : FuncId) (cap : List AV) (p : Lit → Bool) (l : List Lit) (hl : l.length < LIM) (hp : ∀ x ∈ l, F g (.agg x.cs :: cap) s = some (.bool (p x), s, [])) :
    FT (env K gw) NoW 89 [.sl (l.map Lit.cs), .fn (.func g) [] cap] s (.int .i64 (ixI (l.findIdx? p))) s := by
  refine FT.pure (fn := Tryz.f89) hF mixed Tryz.func89 (by kernel_rfl) (by rfl) rfl rfl (by simp) rfl fun μ w => ?_
  repeat' (first
    | refine WP.t ?_ | refine WP.k ?_ | refine WP.e ?_ | refine Qn ?_ | refine Qr ?_ | refine Qe ?_ | refine Bn ?_ | refine Br ?_ | refine Be ?_ | refine Bx (by decide) ?_
    | (refine RS.nl ?_; refine hk _ _ ?_; clear hk k)
    | ((first | refine RS.st fun A B hA hB => ?_ | refine RQ.st fun A B hA hB => ?_); simp [onW_t, onW_t, onW_f, onV_s]; first | ((first | refine hA _ _ _ ?_ ?_ | refine hA _ _ _ ?_ (by first | exact .inl rfl | exact .inr (by decide)) ?_); (focus (simp [onW_t] <;> omega)); clear hA hB A B) | (refine hB ?_; clear hA hB A B) | (refine onV_if ?_ ?_; (focus (first | omega | (refine ⟨?_, ?_⟩ <;> omega))); simp only [onV_s]; (first | refine hA _ _ _ ?_ ?_ | refine hA _ _ _ ?_ (by first | exact .inl rfl | exact .inr (by decide)) ?_); (focus (simp [onW_t] <;> omega)); clear hA hB A B))
    | (refine RQ.nl ?_; refine hk _ _ ?_; clear hk k)
    | refine WP.sr fun k hk => ?_ | refine WP.r fun k hk => ?_
    | refine WP.sd _ rfl fun k hk => ?_ | refine WP.d _ rfl fun k hk => ?_
    | (refine WP.cc fun A B hA hB => ?_; simp [onW_t, onB_t, onB_f]; first | (refine hA ?_; clear hA hB A B) | (refine hB ?_; clear hA hB A B) | (refine onB_if (fun h => hA ?_) (fun h => hB ?_) <;> clear hA hB A B))
    | refine WP.q ?_ | refine WP.b ?_)
  refine WP_loop (fun n T s' => ∃ i : Nat, n + i = l.length ∧ s' = s ∧ T.get 0 = .sl (l.map Lit.cs) ∧ T.get 1 = .fn (.func g) [] cap ∧ T.get 7 = .int .i64 l.length ∧ T.get 8 = .int .i64 i ∧ ∀ j (hj : j < l.length), j < i → p l[j] = false) l.length ⟨0, by simp, rfl, by simp, by simp, by simp, by simp, fun j hj h => by omega⟩ ?_
  rintro n T s' ⟨i, hn, rfl, h0, h1, h7, h8, hb⟩
  by_cases hi : i < l.length
  · have hw : IntKind.i64.wrap ((i : Int) + 1) = (i : Int) + 1 := wrap64 (by omega) (by simp only [LIM] at hl; omega)
    have ha : l[i]? = some l[i] := List.getElem?_eq_getElem hi
    have hlt : ((i : Int) < (l.length : Int)) := by omega
    have hpi := hp l[i] (List.getElem_mem hi)
    generalize hx : l[i] = x at *
    cases hpx : p x with
    | true =>
      rw [hpx] at hpi
      have hf := find_some (p := p) hi (by rw [hx]; exact hpx) hb
      simp only [Lit.cs] at hpi
      repeat' (first
        | refine WP.t ?_ | refine WP.k ?_ | refine WP.e ?_ | refine Qn ?_ | refine Qr ?_ | refine Qe ?_ | refine Bn ?_ | refine Br ?_ | refine Be ?_ | refine Bx (by decide) ?_
        | (refine RS.nl ?_; refine hk _ _ ?_; clear hk k)
        | ((first | refine RS.st fun A B hA hB => ?_ | refine RQ.st fun A B hA hB => ?_); simp [h0, h1, h7, h8, hlt, hi, ha, hx, hw, hpi, Lit.cs, onW_t, onW_f, onV_s]; first | ((first | refine hA _ _ _ ?_ ?_ | refine hA _ _ _ ?_ (by first | exact .inl rfl | exact .inr (by decide)) ?_); (focus (simp [h0, h1, h7, h8, hlt, hi, ha, hx, hw, hpi, Lit.cs] <;> omega)); clear hA hB A B) | (refine hB ?_; clear hA hB A B) | (refine onV_if ?_ ?_; (focus (first | omega | (refine ⟨?_, ?_⟩ <;> omega))); simp only [onV_s]; (first | refine hA _ _ _ ?_ ?_ | refine hA _ _ _ ?_ (by first | exact .inl rfl | exact .inr (by decide)) ?_); (focus (simp [h0, h1, h7, h8, hlt, hi, ha, hx, hw, hpi, Lit.cs] <;> omega)); clear hA hB A B))
        | (refine RQ.nl ?_; refine hk _ _ ?_; clear hk k)
        | refine WP.sr fun k hk => ?_ | refine WP.r fun k hk => ?_
        | refine WP.sd _ rfl fun k hk => ?_ | refine WP.d _ rfl fun k hk => ?_
        | (refine WP.cc fun A B hA hB => ?_; simp [h0, h1, h7, h8, hlt, hi, ha, hx, hw, hpi, Lit.cs, onB_t, onB_f]; first | (refine hA ?_; clear hA hB A B) | (refine hB ?_; clear hA hB A B) | (refine onB_if (fun h => hA ?_) (fun h => hB ?_) <;> clear hA hB A B))
        | refine WP.q ?_ | refine WP.b ?_)
      simp [hf, ixI]
    | false =>
      rw [hpx] at hpi
      simp only [Lit.cs] at hpi
      repeat' (first
        | refine WP.t ?_ | refine WP.k ?_ | refine WP.e ?_ | refine Qn ?_ | refine Qr ?_ | refine Qe ?_ | refine Bn ?_ | refine Br ?_ | refine Be ?_ | refine Bx (by decide) ?_
        | (refine RS.nl ?_; refine hk _ _ ?_; clear hk k)
        | ((first | refine RS.st fun A B hA hB => ?_ | refine RQ.st fun A B hA hB => ?_); simp [h0, h1, h7, h8, hlt, hi, ha, hx, hw, hpi, Lit.cs, onW_t, onW_f, onV_s]; first | ((first | refine hA _ _ _ ?_ ?_ | refine hA _ _ _ ?_ (by first | exact .inl rfl | exact .inr (by decide)) ?_); (focus (simp [h0, h1, h7, h8, hlt, hi, ha, hx, hw, hpi, Lit.cs] <;> omega)); clear hA hB A B) | (refine hB ?_; clear hA hB A B) | (refine onV_if ?_ ?_; (focus (first | omega | (refine ⟨?_, ?_⟩ <;> omega))); simp only [onV_s]; (first | refine hA _ _ _ ?_ ?_ | refine hA _ _ _ ?_ (by first | exact .inl rfl | exact .inr (by decide)) ?_); (focus (simp [h0, h1, h7, h8, hlt, hi, ha, hx, hw, hpi, Lit.cs] <;> omega)); clear hA hB A B))
        | (refine RQ.nl ?_; refine hk _ _ ?_; clear hk k)
        | refine WP.sr fun k hk => ?_ | refine WP.r fun k hk => ?_
        | refine WP.sd _ rfl fun k hk => ?_ | refine WP.d _ rfl fun k hk => ?_
        | (refine WP.cc fun A B hA hB => ?_; simp [h0, h1, h7, h8, hlt, hi, ha, hx, hw, hpi, Lit.cs, onB_t, onB_f]; first | (refine hA ?_; clear hA hB A B) | (refine hB ?_; clear hA hB A B) | (refine onB_if (fun h => hA ?_) (fun h => hB ?_) <;> clear hA hB A B))
        | refine WP.q ?_ | refine WP.b ?_)
      refine ⟨n - 1, by omega, i + 1, by omega, rfl, by simp [h0], by simp [h1], by simp [h7], by simp, fun j hj hji => ?_⟩
      by_cases e : j = i
      · subst e; rw [hx]; exact hpx
      · exact hb j hj (by omega)
  · have hlt : ¬ ((i : Int) < (l.length : Int)) := by omega
    have hf := find_none (p := p) (l := l) fun j hj => hb j hj (by omega)
    repeat' (first
      | refine WP.t ?_ | refine WP.k ?_ | refine WP.e ?_ | refine Qn ?_ | refine Qr ?_ | refine Qe ?_ | refine Bn ?_ | refine Br ?_ | refine Be ?_ | refine Bx (by decide) ?_
      | (refine RS.nl ?_; refine hk _ _ ?_; clear hk k)
      | ((first | refine RS.st fun A B hA hB => ?_ | refine RQ.st fun A B hA hB => ?_); simp [h0, h1, h7, h8, hlt, onW_t, onW_f, onV_s]; first | ((first | refine hA _ _ _ ?_ ?_ | refine hA _ _ _ ?_ (by first | exact .inl rfl | exact .inr (by decide)) ?_); (focus (simp [h0, h1, h7, h8, hlt] <;> omega)); clear hA hB A B) | (refine hB ?_; clear hA hB A B) | (refine onV_if ?_ ?_; (focus (first | omega | (refine ⟨?_, ?_⟩ <;> omega))); simp only [onV_s]; (first | refine hA _ _ _ ?_ ?_ | refine hA _ _ _ ?_ (by first | exact .inl rfl | exact .inr (by decide)) ?_); (focus (simp [h0, h1, h7, h8, hlt] <;> omega)); clear hA hB A B))
      | (refine RQ.nl ?_; refine hk _ _ ?_; clear hk k)
      | refine WP.sr fun k hk => ?_ | refine WP.r fun k hk => ?_
      | refine WP.sd _ rfl fun k hk => ?_ | refine WP.d _ rfl fun k hk => ?_
      | (refine WP.cc fun A B hA hB => ?_; simp [h0, h1, h7, h8, hlt, onB_t, onB_f]; first | (refine hA ?_; clear hA hB A B) | (refine hB ?_; clear hA hB A B) | (refine onB_if (fun h => hA ?_) (fun h => hB ?_) <;> clear hA hB A B))
      | refine WP.q ?_ | refine WP.b ?_)
    simp [hf, ixI]
end
end Go.Am
