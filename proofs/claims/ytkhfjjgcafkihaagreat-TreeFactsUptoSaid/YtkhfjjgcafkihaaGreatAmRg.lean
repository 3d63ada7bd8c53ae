/- Part of the proof: abstract values over the given model of Go (R7, R8). Conditions: none of its own; see the statement in the seat's Rows text. -/
import Derived.Test.YtkhfjjgcafkihaaGreatAmRb
import Derived.Test.YtkhfjjgcafkihaaGreatAmUe
set_option linter.unusedSimpArgs false
set_option linter.unusedVariables false
set_option linter.unusedSectionVars false
namespace Go.Am
open Go.Proofs
def okLitS (l : Lit) : Bool := okTms l.atom.a && decide (l.l.v.s.length < LIM) && decide (l.r.v.s.length < LIM)
def okRlS (r : Rl) : Bool := okTms r.head.a && r.body.all okLitS
def okFsS (l : List Fc) : Bool := l.all okFcS
def okPgS (g : Pg) : Bool := g.rules.all okRlS
theorem okLitS_iff {l : Lit} : okLitS l = true ↔ okTms l.atom.a = true ∧ l.l.v.s.length < LIM ∧ l.r.v.s.length < LIM := by simp [okLitS, and_assoc]
theorem okRlS_iff {r : Rl} : okRlS r = true ↔ okTms r.head.a = true ∧ ∀ l ∈ r.body, okLitS l = true := by simp [okRlS]
theorem okFsS_iff {l : List Fc} : okFsS l = true ↔ ∀ f ∈ l, okFcS f = true := by simp [okFsS]
theorem okPgS_iff {g : Pg} : okPgS g = true ↔ ∀ r ∈ g.rules, okRlS r = true := by simp [okPgS]
def askE (fs : List Fc) (e : Envr) (l : Lit) : Bool := if l.kind = 2 then !hasE fs l.atom.p ((groundE e l.atom.a).getD []) else if l.kind = 3 then (holdsE l e).1 else true
def asksE (b : List Lit) (fs : List Fc) (e : Envr) : Bool := b.all (askE fs e)
theorem asksE_drop {b : List Lit} {fs : List Fc} {e : Envr} {i : Nat} (h : i < b.length) : asksE (b.drop i) fs e = (askE fs e b[i] && asksE (b.drop (i + 1)) fs e) := by
  rw [List.drop_eq_getElem_cons h]; rfl
section
variable {K : Nat} {gw : World} {s : St}
attribute [local simp] awanted xop zOf cz zrow aop ev T0 Slots.put Slots.set Slots.get awr WOk AV.may ofConst abinop aint isConst St.get_push St.get_put St.live AV.fit AV.cells AV.one fieldOf afieldAddr aload ofCells astore splice May eqres env_ti FinP FinZ FinW ares aresL ares1 Fns.addP Fns.add Fns.a0 Fns.a1 Fns.a2 Fns.a3 Fns.a4 abuiltin alenOk alen aindex elemOfT elemId abuildSlice afill chunks ard aappend isSS AV.isStr aminmax placesOf abuild afield aidx isStrD isStrDesc astrop aslice asliceOk abound arange anext aextract aunop aeq AV.ck avseq aveq aconv aconvert onB_t onB_f List.range_succ
noncomputable def Q13 : Fns := (Q12.addN 23 fun xs => match xs with
  | [.agg c, .sl d] => match cAtm.un c, unL cPr d with
    | some t, some e => if t.a.length < 268435456 ∧ e.length < LIM then some (tupR (groundE e t.a)) else none
    | _, _ => none
  | _ => none).addN 72 fun xs => match xs with
  | [.agg c, .sl d] => match cLit.un c, unL cPr d with
    | some l, some e => if e.length < LIM ∧ okE e = true ∧ l.l.v.s.length < LIM ∧ l.r.v.s.length < LIM then some (.tup [.bool (holdsE l e).1, .bool (holdsE l e).2]) else none
    | _, _ => none
  | _ => none
theorem Q13_ok : FOk (env K gw) Q13 := by
  refine (Q12_ok.addN fun xs s r h => ?_).addN fun xs s r h => ?_
  · split at h
    · split at h
      · rename_i hc hd
        split at h
        · rename_i hl
          cases h
          rw [cAtm.cs_un _ _ hc, unL_eq cPr _ _ hd]
          exact ft_RGround _ _ hl.1 hl.2
        · cases h
      · cases h
    · cases h
  · split at h
    · split at h
      · rename_i hc hd
        split at h
        · rename_i hl
          cases h
          rw [cLit.cs_un _ _ hc, unL_eq cPr _ _ hd]
          exact ft_RHolds _ _ hl.1 hl.2.1 hl.2.2.1 hl.2.2.2
        · cases h
      · cases h
    · cases h
theorem Q13_ground (t : Atm) (e : Envr) (h1 : t.a.length < 268435456) (h2 : e.length < LIM) (s2 : St) : Q13 23 [.agg [.str t.p, .sl (t.a.map Tm.cs)], .sl (e.map Pr.cs)] s2 = some (tupR (groundE e t.a), s2, []) := by
  have hA : cAtm.un [.str t.p, .sl (t.a.map Tm.cs)] = some t := cAtm.un_cs t
  have hP := unL_Pr e
  simp [Q13, Fns.addN, nrm, nrm0, hA, hP, h1, h2]
theorem Q13_holds (l : Lit) (e : Envr) (h1 : e.length < LIM) (h2 : okE e = true) (h3 : l.l.v.s.length < LIM) (h4 : l.r.v.s.length < LIM) (s2 : St) : Q13 72 [.agg l.cs, .sl (e.map Pr.cs)] s2 = some (.tup [.bool (holdsE l e).1, .bool (holdsE l e).2], s2, []) := by
  have hA : cLit.un [.int .i64 l.kind, .str l.atom.p, .sl (l.atom.a.map Tm.cs), .str l.op, .bool l.l.b, .str l.l.k, .bool l.l.v.b, .str l.l.v.s, .int .i64 l.l.v.n, .bool l.r.b, .str l.r.k, .bool l.r.v.b, .str l.r.v.s, .int .i64 l.r.v.n] = some l := cLit.un_cs l
  have hP := unL_Pr e
  simp [Q13, Fns.addN, nrm, nrm0, Lit.cs, hA, hP, h1, h2, h3, h4]
theorem Q13_has (fs : List Fc) (p : Str) (row : List V) (h1 : fs.length < LIM) (h2 : ∀ f ∈ fs, okR f.a = true) (h3 : okR row = true) (s2 : St) : Q13 71 [.sl (fs.map Fc.cs), .str p, .sl (row.map V.cs)] s2 = some (.bool (hasE fs p row), s2, []) := by
  have a1 : (vSl cFc).dec (.sl (fs.map Fc.cs)) = some fs := (vSl cFc).dec_enc fs
  have a2 : (vSl cV).dec (.sl (row.map V.cs)) = some row := (vSl cV).dec_enc row
  simp [Q13, Fns.addN, nrm, Q12, Q11, Q10, Q9, Q8, vStr, a1, a2, h1, h3]
  exact h2
theorem row_ok {a : List Tm} {e : Envr} (h1 : a.length < LIM) (h2 : okE e = true) (h3 : okTms a = true) : okR ((groundE e a).getD []) = true := by
  cases hg : groundE e a with
  | none => rfl
  | some r => exact okR_iff.2 ⟨by show r.length < LIM; rw [groundE_len hg]; exact h1, groundE_ok h2 (okTms_iff.1 h3) hg⟩
set_option maxRecDepth 20000 in
set_option maxHeartbeats 1000000 in
theorem ft_RAsks (r : Rl) (fs : List Fc) (e : Envr) (hb : r.body.length < MB) (hw : wL r.body < MB) (hrs : okRlS r = true) (hfl : fs.length < MB) (hfs : okFsS fs = true) (hel : e.length < LIM) (heo : okE e = true) :
    FT (env K gw) NoW 44 [.agg r.cs, .sl (fs.map Fc.cs), .sl (e.map Pr.cs)] s (.bool (asksE r.body fs e)) s := by
  have hrs' := (okRlS_iff.1 hrs).2
  have hfs' := okFsS_iff.1 hfs
  have hfa : ∀ f ∈ fs, okR f.a = true := fun f hf => (okFcS_iff.1 (hfs' f hf)).2
  obtain ⟨⟨hp, ha⟩, b⟩ := r
  simp only at hb hw hrs'
  refine FT.pure (fn := Tryz.f44) Q13_ok mixed Tryz.func44 (by kernel_rfl) (by rfl) rfl rfl (by simp) rfl fun μ w => ?_
  repeat' (first
    | refine WP.t ?_ | refine WP.k ?_ | refine WP.e ?_ | refine Qn ?_ | refine Qr ?_ | refine Qe ?_ | refine Bn ?_ | refine Br ?_ | refine Be ?_ | refine Bx (by decide) ?_
    | (refine RS.nl ?_; refine hk _ _ ?_; clear hk k)
    | ((first | refine RS.st fun A B hA hB => ?_ | refine RQ.st fun A B hA hB => ?_); simp [Rl.cs, onW_t, onW_f, onV_s]; first | ((first | refine hA _ _ _ ?_ ?_ | refine hA _ _ _ ?_ (by first | exact .inl rfl | exact .inr (by decide)) ?_); (focus (simp [Rl.cs] <;> omega)); clear hA hB A B) | (refine hB ?_; clear hA hB A B) | (refine onV_if ?_ ?_; (focus (first | omega | (refine ⟨?_, ?_⟩ <;> omega))); simp only [onV_s]; (first | refine hA _ _ _ ?_ ?_ | refine hA _ _ _ ?_ (by first | exact .inl rfl | exact .inr (by decide)) ?_); (focus (simp [Rl.cs] <;> omega)); clear hA hB A B))
    | (refine RQ.nl ?_; refine hk _ _ ?_; clear hk k)
    | refine WP.sr fun k hk => ?_ | refine WP.r fun k hk => ?_
    | refine WP.sd _ rfl fun k hk => ?_ | refine WP.d _ rfl fun k hk => ?_
    | (refine WP.cc fun A B hA hB => ?_; simp [Rl.cs, onB_t, onB_f]; first | (refine hA ?_; clear hA hB A B) | (refine hB ?_; clear hA hB A B) | (refine onB_if (fun h => hA ?_) (fun h => hB ?_) <;> clear hA hB A B))
    | refine WP.q ?_ | refine WP.b ?_)
  refine WP_loop (fun n T s' => ∃ i : Nat, n + i = b.length ∧ T.get 1 = .sl (fs.map Fc.cs) ∧ T.get 2 = .sl (e.map Pr.cs) ∧ T.get 3 = .ptr s.nx 0 ∧ s'.get s.nx = some (.var 40 [.str hp, .sl (ha.map Tm.cs), .sl (b.map Lit.cs)]) ∧ T.get 7 = .int .i64 i ∧ s.nx < s'.nx ∧ asksE b fs e = asksE (b.drop i) fs e) b.length
    ⟨0, by simp, by simp, by simp, by simp, by simp [St.get_push], by simp, by simp, by simp⟩ ?_
  rintro n T s' ⟨i, hn, h1, h2, h3, hs0, h7, hnx, hm⟩
  have m0 : ¬ s.nx = s'.nx := by omega
  have l1 : s.nx < s'.nx + 1 := by omega
  by_cases hi : i < b.length
  · have hwi : IntKind.i64.wrap ((i : Int) + 1) = (i : Int) + 1 := wrap64 (by omega) (by simp only [MB] at hb; omega)
    have hlt : ((i : Int) < (b.length : Int)) := by omega
    have hbi : b[i]? = some b[i] := List.getElem?_eq_getElem hi
    have hmd := asksE_drop (fs := fs) (e := e) hi
    have hlo := hrs' b[i] (List.getElem_mem hi)
    have hla := wL_mem (List.getElem_mem hi)
    generalize hl : b[i] = l at *
    obtain ⟨o1, o2, o3⟩ := okLitS_iff.1 hlo
    have hQg := fun s2 => Q13_ground l.atom e (by simp only [MB] at hw; omega) hel s2
    have hQh := fun s2 => Q13_holds l e hel heo o2 o3 s2
    have hro := row_ok (a := l.atom.a) (e := e) (by simp only [MB, LIM] at *; omega) heo o1
    have hQs := fun s2 => Q13_has fs l.atom.p ((groundE e l.atom.a).getD []) (by simp only [MB, LIM] at *; omega) hfa hro s2
    have hlcs : l.cs = [.int .i64 l.kind, .str l.atom.p, .sl (l.atom.a.map Tm.cs), .str l.op, .bool l.l.b, .str l.l.k, .bool l.l.v.b, .str l.l.v.s, .int .i64 l.l.v.n, .bool l.r.b, .str l.r.k, .bool l.r.v.b, .str l.r.v.s, .int .i64 l.r.v.n] := rfl
    rw [hlcs] at hQh
    by_cases k2 : l.kind = 2
    · have k2b : (l.kind == 2) = true := by simp [k2]
      have k3b : (l.kind == 3) = false := by simp [k2]
      have hask : askE fs e l = !hasE fs l.atom.p ((groundE e l.atom.a).getD []) := if_pos k2
      obtain ⟨row, ok, hgr, hrow⟩ : ∃ row ok, tupR (groundE e l.atom.a) = .tup [.sl (row.map V.cs), .bool ok] ∧ (groundE e l.atom.a).getD [] = row := by
        cases hg : groundE e l.atom.a with
        | none => exact ⟨[], false, rfl, rfl⟩
        | some r => exact ⟨r, true, rfl, rfl⟩
      rw [hgr] at hQg
      rw [hrow] at hask hQs
      rw [hask] at hmd
      cases hh : hasE fs l.atom.p row with
      | true =>
        rw [hh] at hmd hQs
        repeat' (first
          | refine WP.t ?_ | refine WP.k ?_ | refine WP.e ?_ | refine Qn ?_ | refine Qr ?_ | refine Qe ?_ | refine Bn ?_ | refine Br ?_ | refine Be ?_ | refine Bx (by decide) ?_
          | (refine RS.nl ?_; refine hk _ _ ?_; clear hk k)
          | ((first | refine RS.st fun A B hA hB => ?_ | refine RQ.st fun A B hA hB => ?_); simp [h1, h2, h3, h7, hs0, hnx, m0, l1, hlt, hi, hbi, hl, hwi, hlcs, k2b, k3b, hQg, hQs, onW_t, onW_f, onV_s]; first | ((first | refine hA _ _ _ ?_ ?_ | refine hA _ _ _ ?_ (by first | exact .inl rfl | exact .inr (by decide)) ?_); (focus (simp [h1, h2, h3, h7, hs0, hnx, m0, l1, hlt, hi, hbi, hl, hwi, hlcs, k2b, k3b, hQg, hQs] <;> omega)); clear hA hB A B) | (refine hB ?_; clear hA hB A B) | (refine onV_if ?_ ?_; (focus (first | omega | (refine ⟨?_, ?_⟩ <;> omega))); simp only [onV_s]; (first | refine hA _ _ _ ?_ ?_ | refine hA _ _ _ ?_ (by first | exact .inl rfl | exact .inr (by decide)) ?_); (focus (simp [h1, h2, h3, h7, hs0, hnx, m0, l1, hlt, hi, hbi, hl, hwi, hlcs, k2b, k3b, hQg, hQs] <;> omega)); clear hA hB A B))
          | (refine RQ.nl ?_; refine hk _ _ ?_; clear hk k)
          | refine WP.sr fun k hk => ?_ | refine WP.r fun k hk => ?_
          | refine WP.sd _ rfl fun k hk => ?_ | refine WP.d _ rfl fun k hk => ?_
          | (refine WP.cc fun A B hA hB => ?_; simp [h1, h2, h3, h7, hs0, hnx, m0, l1, hlt, hi, hbi, hl, hwi, hlcs, k2b, k3b, hQg, hQs, onB_t, onB_f]; first | (refine hA ?_; clear hA hB A B) | (refine hB ?_; clear hA hB A B) | (refine onB_if (fun h => hA ?_) (fun h => hB ?_) <;> clear hA hB A B))
          | refine WP.q ?_ | refine WP.b ?_)
        rw [hm, hmd]
        simp
      | false =>
        rw [hh] at hmd hQs
        repeat' (first
          | refine WP.t ?_ | refine WP.k ?_ | refine WP.e ?_ | refine Qn ?_ | refine Qr ?_ | refine Qe ?_ | refine Bn ?_ | refine Br ?_ | refine Be ?_ | refine Bx (by decide) ?_
          | (refine RS.nl ?_; refine hk _ _ ?_; clear hk k)
          | ((first | refine RS.st fun A B hA hB => ?_ | refine RQ.st fun A B hA hB => ?_); simp [h1, h2, h3, h7, hs0, hnx, m0, l1, hlt, hi, hbi, hl, hwi, hlcs, k2b, k3b, hQg, hQs, onW_t, onW_f, onV_s]; first | ((first | refine hA _ _ _ ?_ ?_ | refine hA _ _ _ ?_ (by first | exact .inl rfl | exact .inr (by decide)) ?_); (focus (simp [h1, h2, h3, h7, hs0, hnx, m0, l1, hlt, hi, hbi, hl, hwi, hlcs, k2b, k3b, hQg, hQs] <;> omega)); clear hA hB A B) | (refine hB ?_; clear hA hB A B) | (refine onV_if ?_ ?_; (focus (first | omega | (refine ⟨?_, ?_⟩ <;> omega))); simp only [onV_s]; (first | refine hA _ _ _ ?_ ?_ | refine hA _ _ _ ?_ (by first | exact .inl rfl | exact .inr (by decide)) ?_); (focus (simp [h1, h2, h3, h7, hs0, hnx, m0, l1, hlt, hi, hbi, hl, hwi, hlcs, k2b, k3b, hQg, hQs] <;> omega)); clear hA hB A B))
          | (refine RQ.nl ?_; refine hk _ _ ?_; clear hk k)
          | refine WP.sr fun k hk => ?_ | refine WP.r fun k hk => ?_
          | refine WP.sd _ rfl fun k hk => ?_ | refine WP.d _ rfl fun k hk => ?_
          | (refine WP.cc fun A B hA hB => ?_; simp [h1, h2, h3, h7, hs0, hnx, m0, l1, hlt, hi, hbi, hl, hwi, hlcs, k2b, k3b, hQg, hQs, onB_t, onB_f]; first | (refine hA ?_; clear hA hB A B) | (refine hB ?_; clear hA hB A B) | (refine onB_if (fun h => hA ?_) (fun h => hB ?_) <;> clear hA hB A B))
          | refine WP.q ?_ | refine WP.b ?_)
        refine ⟨n - 1, by omega, i + 1, by omega, by simp [h1], by simp [h2], by simp [h3], ?_, by simp, by simp; omega, by rw [hm, hmd]; rfl⟩
        simp [St.get_push, St.get_put, hs0, m0]
    · have k2b : (l.kind == 2) = false := by simp [k2]
      by_cases k3 : l.kind = 3
      · have k3b : (l.kind == 3) = true := by simp [k3]
        have hask : askE fs e l = (holdsE l e).1 := by unfold askE; rw [if_neg k2, if_pos k3]
        rw [hask] at hmd
        cases hh : (holdsE l e).1 with
        | true =>
          rw [hh] at hmd hQh
          repeat' (first
            | refine WP.t ?_ | refine WP.k ?_ | refine WP.e ?_ | refine Qn ?_ | refine Qr ?_ | refine Qe ?_ | refine Bn ?_ | refine Br ?_ | refine Be ?_ | refine Bx (by decide) ?_
            | (refine RS.nl ?_; refine hk _ _ ?_; clear hk k)
            | ((first | refine RS.st fun A B hA hB => ?_ | refine RQ.st fun A B hA hB => ?_); simp [h1, h2, h3, h7, hs0, hnx, m0, l1, hlt, hi, hbi, hl, hwi, hlcs, k2b, k3b, hQh, onW_t, onW_f, onV_s]; first | ((first | refine hA _ _ _ ?_ ?_ | refine hA _ _ _ ?_ (by first | exact .inl rfl | exact .inr (by decide)) ?_); (focus (simp [h1, h2, h3, h7, hs0, hnx, m0, l1, hlt, hi, hbi, hl, hwi, hlcs, k2b, k3b, hQh] <;> omega)); clear hA hB A B) | (refine hB ?_; clear hA hB A B) | (refine onV_if ?_ ?_; (focus (first | omega | (refine ⟨?_, ?_⟩ <;> omega))); simp only [onV_s]; (first | refine hA _ _ _ ?_ ?_ | refine hA _ _ _ ?_ (by first | exact .inl rfl | exact .inr (by decide)) ?_); (focus (simp [h1, h2, h3, h7, hs0, hnx, m0, l1, hlt, hi, hbi, hl, hwi, hlcs, k2b, k3b, hQh] <;> omega)); clear hA hB A B))
            | (refine RQ.nl ?_; refine hk _ _ ?_; clear hk k)
            | refine WP.sr fun k hk => ?_ | refine WP.r fun k hk => ?_
            | refine WP.sd _ rfl fun k hk => ?_ | refine WP.d _ rfl fun k hk => ?_
            | (refine WP.cc fun A B hA hB => ?_; simp [h1, h2, h3, h7, hs0, hnx, m0, l1, hlt, hi, hbi, hl, hwi, hlcs, k2b, k3b, hQh, onB_t, onB_f]; first | (refine hA ?_; clear hA hB A B) | (refine hB ?_; clear hA hB A B) | (refine onB_if (fun h => hA ?_) (fun h => hB ?_) <;> clear hA hB A B))
            | refine WP.q ?_ | refine WP.b ?_)
          refine ⟨n - 1, by omega, i + 1, by omega, by simp [h1], by simp [h2], by simp [h3], ?_, by simp, by simp; omega, by rw [hm, hmd]; rfl⟩
          simp [St.get_push, St.get_put, hs0, m0]
        | false =>
          rw [hh] at hmd hQh
          repeat' (first
            | refine WP.t ?_ | refine WP.k ?_ | refine WP.e ?_ | refine Qn ?_ | refine Qr ?_ | refine Qe ?_ | refine Bn ?_ | refine Br ?_ | refine Be ?_ | refine Bx (by decide) ?_
            | (refine RS.nl ?_; refine hk _ _ ?_; clear hk k)
            | ((first | refine RS.st fun A B hA hB => ?_ | refine RQ.st fun A B hA hB => ?_); simp [h1, h2, h3, h7, hs0, hnx, m0, l1, hlt, hi, hbi, hl, hwi, hlcs, k2b, k3b, hQh, onW_t, onW_f, onV_s]; first | ((first | refine hA _ _ _ ?_ ?_ | refine hA _ _ _ ?_ (by first | exact .inl rfl | exact .inr (by decide)) ?_); (focus (simp [h1, h2, h3, h7, hs0, hnx, m0, l1, hlt, hi, hbi, hl, hwi, hlcs, k2b, k3b, hQh] <;> omega)); clear hA hB A B) | (refine hB ?_; clear hA hB A B) | (refine onV_if ?_ ?_; (focus (first | omega | (refine ⟨?_, ?_⟩ <;> omega))); simp only [onV_s]; (first | refine hA _ _ _ ?_ ?_ | refine hA _ _ _ ?_ (by first | exact .inl rfl | exact .inr (by decide)) ?_); (focus (simp [h1, h2, h3, h7, hs0, hnx, m0, l1, hlt, hi, hbi, hl, hwi, hlcs, k2b, k3b, hQh] <;> omega)); clear hA hB A B))
            | (refine RQ.nl ?_; refine hk _ _ ?_; clear hk k)
            | refine WP.sr fun k hk => ?_ | refine WP.r fun k hk => ?_
            | refine WP.sd _ rfl fun k hk => ?_ | refine WP.d _ rfl fun k hk => ?_
            | (refine WP.cc fun A B hA hB => ?_; simp [h1, h2, h3, h7, hs0, hnx, m0, l1, hlt, hi, hbi, hl, hwi, hlcs, k2b, k3b, hQh, onB_t, onB_f]; first | (refine hA ?_; clear hA hB A B) | (refine hB ?_; clear hA hB A B) | (refine onB_if (fun h => hA ?_) (fun h => hB ?_) <;> clear hA hB A B))
            | refine WP.q ?_ | refine WP.b ?_)
          rw [hm, hmd]
          simp
      · have k3b : (l.kind == 3) = false := by simp [k3]
        have hask : askE fs e l = true := by unfold askE; rw [if_neg k2, if_neg k3]
        rw [hask] at hmd
        repeat' (first
          | refine WP.t ?_ | refine WP.k ?_ | refine WP.e ?_ | refine Qn ?_ | refine Qr ?_ | refine Qe ?_ | refine Bn ?_ | refine Br ?_ | refine Be ?_ | refine Bx (by decide) ?_
          | (refine RS.nl ?_; refine hk _ _ ?_; clear hk k)
          | ((first | refine RS.st fun A B hA hB => ?_ | refine RQ.st fun A B hA hB => ?_); simp [h1, h2, h3, h7, hs0, hnx, m0, l1, hlt, hi, hbi, hl, hwi, hlcs, k2b, k3b, onW_t, onW_f, onV_s]; first | ((first | refine hA _ _ _ ?_ ?_ | refine hA _ _ _ ?_ (by first | exact .inl rfl | exact .inr (by decide)) ?_); (focus (simp [h1, h2, h3, h7, hs0, hnx, m0, l1, hlt, hi, hbi, hl, hwi, hlcs, k2b, k3b] <;> omega)); clear hA hB A B) | (refine hB ?_; clear hA hB A B) | (refine onV_if ?_ ?_; (focus (first | omega | (refine ⟨?_, ?_⟩ <;> omega))); simp only [onV_s]; (first | refine hA _ _ _ ?_ ?_ | refine hA _ _ _ ?_ (by first | exact .inl rfl | exact .inr (by decide)) ?_); (focus (simp [h1, h2, h3, h7, hs0, hnx, m0, l1, hlt, hi, hbi, hl, hwi, hlcs, k2b, k3b] <;> omega)); clear hA hB A B))
          | (refine RQ.nl ?_; refine hk _ _ ?_; clear hk k)
          | refine WP.sr fun k hk => ?_ | refine WP.r fun k hk => ?_
          | refine WP.sd _ rfl fun k hk => ?_ | refine WP.d _ rfl fun k hk => ?_
          | (refine WP.cc fun A B hA hB => ?_; simp [h1, h2, h3, h7, hs0, hnx, m0, l1, hlt, hi, hbi, hl, hwi, hlcs, k2b, k3b, onB_t, onB_f]; first | (refine hA ?_; clear hA hB A B) | (refine hB ?_; clear hA hB A B) | (refine onB_if (fun h => hA ?_) (fun h => hB ?_) <;> clear hA hB A B))
          | refine WP.q ?_ | refine WP.b ?_)
        refine ⟨n - 1, by omega, i + 1, by omega, by simp [h1], by simp [h2], by simp [h3], ?_, by simp, by simp; omega, by rw [hm, hmd]; rfl⟩
        simp [St.get_push, St.get_put, hs0, m0]
  · have hlt : ¬ ((i : Int) < (b.length : Int)) := by omega
    have hm2 : asksE b fs e = true := by
      rw [hm, List.drop_eq_nil_of_le (by omega)]; rfl
    repeat' (first
      | refine WP.t ?_ | refine WP.k ?_ | refine WP.e ?_ | refine Qn ?_ | refine Qr ?_ | refine Qe ?_ | refine Bn ?_ | refine Br ?_ | refine Be ?_ | refine Bx (by decide) ?_
      | (refine RS.nl ?_; refine hk _ _ ?_; clear hk k)
      | ((first | refine RS.st fun A B hA hB => ?_ | refine RQ.st fun A B hA hB => ?_); simp [h1, h2, h3, h7, hs0, hnx, m0, l1, hlt, onW_t, onW_f, onV_s]; first | ((first | refine hA _ _ _ ?_ ?_ | refine hA _ _ _ ?_ (by first | exact .inl rfl | exact .inr (by decide)) ?_); (focus (simp [h1, h2, h3, h7, hs0, hnx, m0, l1, hlt] <;> omega)); clear hA hB A B) | (refine hB ?_; clear hA hB A B) | (refine onV_if ?_ ?_; (focus (first | omega | (refine ⟨?_, ?_⟩ <;> omega))); simp only [onV_s]; (first | refine hA _ _ _ ?_ ?_ | refine hA _ _ _ ?_ (by first | exact .inl rfl | exact .inr (by decide)) ?_); (focus (simp [h1, h2, h3, h7, hs0, hnx, m0, l1, hlt] <;> omega)); clear hA hB A B))
      | (refine RQ.nl ?_; refine hk _ _ ?_; clear hk k)
      | refine WP.sr fun k hk => ?_ | refine WP.r fun k hk => ?_
      | refine WP.sd _ rfl fun k hk => ?_ | refine WP.d _ rfl fun k hk => ?_
      | (refine WP.cc fun A B hA hB => ?_; simp [h1, h2, h3, h7, hs0, hnx, m0, l1, hlt, onB_t, onB_f]; first | (refine hA ?_; clear hA hB A B) | (refine hB ?_; clear hA hB A B) | (refine onB_if (fun h => hA ?_) (fun h => hB ?_) <;> clear hA hB A B))
      | refine WP.q ?_ | refine WP.b ?_)
    simp [hm2]
end
end Go.Am
namespace Go.Am
open Go.Proofs
theorem blI : ∀ x : List UInt8, Op.bytesLess x x = false
  | [] => rfl
  | a :: x => by simp [Op.bytesLess, blI x]
theorem cmpS_zero {x y : Str} : cmpS x y = 0 ↔ x = y := by
  unfold cmpS
  constructor
  · intro h
    split at h
    · cases h
    · split at h
      · rename_i h2; simpa using h2
      · cases h
  · rintro rfl
    simp [blI]
theorem cmpF_has (x : Fc) (p : Str) (row : List V) : (cmpF x ⟨p, row⟩ == 0) = (x.p == p && cmpT x.a row == 0) := by
  unfold cmpF
  by_cases h : x.p = p
  · simp only
    rw [if_pos (cmpS_zero.2 h)]
    simp [h]
  · have h2 : ¬ cmpS x.p p = 0 := fun e => h (cmpS_zero.1 e)
    have e1 : (cmpS x.p p == 0) = false := by rw [beq_eq_false_iff_ne]; exact h2
    have e2 : (x.p == p) = false := by rw [beq_eq_false_iff_ne]; exact h
    simp only
    rw [if_neg h2, e1, e2]
    rfl
theorem any_has (fs : List Fc) (p : Str) (row : List V) : (fs.any fun x => cmpF x ⟨p, row⟩ == 0) = hasE fs p row := by
  unfold hasE
  congr 1
  funext x
  exact cmpF_has x p row
def grE (e : Envr) (b : List Lit) : Bool := b.all fun l => !(l.kind == 2) || (groundE e l.atom.a).isSome
theorem grE_drop {b : List Lit} {e : Envr} {i : Nat} (h : i < b.length) : grE e (b.drop i) = ((!(b[i].kind == 2) || (groundE e b[i].atom.a).isSome) && grE e (b.drop (i + 1))) := by
  rw [List.drop_eq_getElem_cons h]; rfl
theorem holds_split (l : Lit) (fs : List Fc) (e : Envr) : holdsL l fs e = ((!(l.kind == 2) || (groundE e l.atom.a).isSome) && askE fs e l) := by
  unfold holdsL askE
  by_cases h2 : l.kind = 2
  · simp only [h2, if_true]
    cases hg : groundE e l.atom.a with
    | none => simp
    | some row => simp [any_has]
  · simp [h2]
theorem asks_split (b : List Lit) (fs : List Fc) (e : Envr) : (!(b.any fun l => !holdsL l fs e)) = (grE e b && asksE b fs e) := by
  unfold grE asksE
  induction b with
  | nil => rfl
  | cons l b ih =>
    simp only [List.any_cons, List.all_cons, Bool.not_or, Bool.not_not, ih]
    rw [holds_split]
    generalize (!(l.kind == 2) || (groundE e l.atom.a).isSome) = x
    generalize askE fs e l = y
    cases x <;> cases y <;> simp
theorem solveL_ok : ∀ {b : List Lit} {l l' : List Nd} {e e' : Envr}, okE e = true → (∀ k ∈ l, ∀ v ∈ k.f.a, v.s.length < LIM) → solveL b l e = some (e', l') → okE e' = true
  | [], l, l', e, e', he, _, h => by cases h; exact he
  | x :: b, l, l', e, e', he, hl, h => by
    simp only [solveL] at h
    split at h
    · split at h
      · cases h
      · split at h
        · split at h
          · cases h
          · rename_i hm
            exact solveL_ok (matchE_ok he (hl _ (by simp)) hm) (fun k hk => hl k (by simp [hk])) h
        · cases h
    · exact solveL_ok he hl h
theorem standsE_none {g : Pg} {fs : List Fc} {n : Nd} {j : Nat} (hj : n.r = (j : Int)) (h : g.rules[j]? = none) : standsE g fs n = false := by
  unfold standsE
  rw [if_neg (by omega), hj, Int.toNat_natCast, h]
theorem standsE_some {g : Pg} {fs : List Fc} {n : Nd} {j : Nat} {r : Rl} (hj : n.r = (j : Int)) (h : g.rules[j]? = some r) : standsE g fs n = match matchE r.head.a n.f.a [] with
    | none => false
    | some e => if r.head.p = n.f.p then (match solveL r.body n.k e with
      | none => false
      | some (e', left) => decide (left.length = 0) && (grE e' r.body && asksE r.body fs e')) else false := by
  unfold standsE
  rw [if_neg (by omega), hj, Int.toNat_natCast, h]
  simp only
  unfold solvedT
  cases hm : matchE r.head.a n.f.a [] with
  | none => simp
  | some e =>
    simp only
    by_cases hp : r.head.p = n.f.p
    · rw [if_pos hp, if_pos hp]
      cases hs : solveL r.body n.k e with
      | none => simp
      | some p => simp only; rw [asks_split]
    · rw [if_neg hp, if_neg hp]; simp
section
variable {K : Nat} {gw : World} {s : St}
attribute [local simp] awanted xop zOf cz zrow aop ev T0 Slots.put Slots.set Slots.get awr WOk AV.may ofConst abinop aint isConst St.get_push St.get_put St.live AV.fit AV.cells AV.one fieldOf afieldAddr aload ofCells astore splice May eqres env_ti FinP FinZ FinW ares aresL ares1 Fns.addP Fns.add Fns.a0 Fns.a1 Fns.a2 Fns.a3 Fns.a4 abuiltin alenOk alen aindex elemOfT elemId abuildSlice afill chunks ard aappend isSS AV.isStr aminmax placesOf abuild afield aidx isStrD isStrDesc astrop aslice asliceOk abound arange anext aextract aunop aeq AV.ck avseq aveq aconv aconvert onB_t onB_f List.range_succ
noncomputable def Q14 : Fns := Q13.addP 44 fun xs => match xs with
  | [.agg c, .sl d, .sl x] => match cRl.un c, unL cFc d, unL cPr x with
    | some r, some fs, some e => if r.body.length < MB ∧ wL r.body < MB ∧ okRlS r = true ∧ fs.length < MB ∧ okFsS fs = true ∧ e.length < LIM ∧ okE e = true then some (.bool (asksE r.body fs e)) else none
    | _, _, _ => none
  | _ => none
theorem Q14_ok : FOk (env K gw) Q14 := by
  refine Q13_ok.addP fun xs s r h => ?_
  split at h
  · split at h
    · rename_i hc hd hx
      split at h
      · rename_i hl
        cases h
        rw [cRl.cs_un _ _ hc, unL_eq cFc _ _ hd, unL_eq cPr _ _ hx]
        exact ft_RAsks _ _ _ hl.1 hl.2.1 hl.2.2.1 hl.2.2.2.1 hl.2.2.2.2.1 hl.2.2.2.2.2.1 hl.2.2.2.2.2.2
      · cases h
    · cases h
  · cases h
theorem Q14_asks (r : Rl) (fs : List Fc) (e : Envr) (h1 : r.body.length < MB) (h2 : wL r.body < MB) (h3 : okRlS r = true) (h4 : fs.length < MB) (h5 : okFsS fs = true) (h6 : e.length < LIM) (h7 : okE e = true) (s2 : St) : Q14 44 [.agg r.cs, .sl (fs.map Fc.cs), .sl (e.map Pr.cs)] s2 = some (.bool (asksE r.body fs e), s2, []) := by
  have hA : cRl.un r.cs = some r := cRl.un_cs r
  have hF := unL_Fc fs
  have hP := unL_Pr e
  simp only [MB] at h1 h2 h4
  simp [Q14, Fns.addP, hA, hF, hP, h1, h2, h3, h4, h5, h6, h7]
theorem Q14_ground (t : Atm) (e : Envr) (h1 : t.a.length < 268435456) (h2 : e.length < LIM) (s2 : St) : Q14 23 [.agg [.str t.p, .sl (t.a.map Tm.cs)], .sl (e.map Pr.cs)] s2 = some (tupR (groundE e t.a), s2, []) := by
  rw [← Q13_ground t e h1 h2 s2]
  simp [Q14]
theorem Q14_match (t : Atm) (r : List V) (e : Envr) (h1 : e.length + t.a.length < 268435456) (h2 : r.length < 268435456) (h3 : ∀ v ∈ r, v.s.length < LIM) (h4 : okE e = true) (h5 : okTms t.a = true) (s2 : St) : Q14 42 [.agg [.str t.p, .sl (t.a.map Tm.cs)], .sl (r.map V.cs), .sl (e.map Pr.cs)] s2 = some (tupE (matchE t.a r e), s2, []) := by
  have hA : cAtm.un [.str t.p, .sl (t.a.map Tm.cs)] = some t := cAtm.un_cs t
  have hV := unL_V r
  have hP := unL_Pr e
  simp [Q14, Q13, Q12, Fns.addN, nrm, nrm0, hA, hV, hP, h1, h2, h4, h5]
  exact h3
theorem Q14_match0 (t : Atm) (r : List V) (h1 : t.a.length < 268435456) (h2 : r.length < 268435456) (h3 : ∀ v ∈ r, v.s.length < LIM) (h5 : okTms t.a = true) (s2 : St) : Q14 42 [.agg [.str t.p, .sl (t.a.map Tm.cs)], .sl (r.map V.cs), .nsl] s2 = some (tupE (matchE t.a r []), s2, []) := by
  have hA : cAtm.un [.str t.p, .sl (t.a.map Tm.cs)] = some t := cAtm.un_cs t
  have hV := unL_V r
  have h4 : okE [] = true := rfl
  simp [Q14, Q13, Q12, Fns.addN, nrm, nrm0, hA, hV, h1, h2, h4, h5]
  exact h3
end
end Go.Am
