/- Part of the proof: abstract values over the given model of Go (R7, R8, R9). Conditions: none of its own; see the statement in the seat's Rows text. -/
import Derived.Test.YtkhfjjgcafkihaaGreatAmRb
import Derived.Test.YtkhfjjgcafkihaaGreatAmUe
set_option linter.unusedSimpArgs false
set_option linter.unusedVariables false
set_option linter.unusedSectionVars false
namespace Go.Am
open Go.Proofs
def okLitS (l : Lit) : Bool := okTms l.atom.a && decide (l.l.v.s.length < LIM) && decide (l.r.v.s.length < LIM)
def okRlS (r : Rl) : Bool := okTms r.head.a && r.body.all okLitS
def okFsS (l : List Fc) : Bool := l.all okFcS
def okPgS (g : Pg) : Bool := g.rules.all okRlS
theorem okLitS_iff {l : Lit} : okLitS l = true ↔ okTms l.atom.a = true ∧ l.l.v.s.length < LIM ∧ l.r.v.s.length < LIM := by simp [okLitS, and_assoc]
theorem okRlS_iff {r : Rl} : okRlS r = true ↔ okTms r.head.a = true ∧ ∀ l ∈ r.body, okLitS l = true := by simp [okRlS]
theorem okFsS_iff {l : List Fc} : okFsS l = true ↔ ∀ f ∈ l, okFcS f = true := by simp [okFsS]
theorem okPgS_iff {g : Pg} : okPgS g = true ↔ ∀ r ∈ g.rules, okRlS r = true := by simp [okPgS]
def askE (fs : List Fc) (e : Envr) (l : Lit) : Bool := if l.kind = 2 then !hasE fs l.atom.p ((groundE e l.atom.a).getD []) else if l.kind = 3 then (holdsE l e).1 else true
def asksE (b : List Lit) (fs : List Fc) (e : Envr) : Bool := b.all (askE fs e)
theorem asksE_drop {b : List Lit} {fs : List Fc} {e : Envr} {i : Nat} (h : i < b.length) : asksE (b.drop i) fs e = (askE fs e b[i] && asksE (b.drop (i + 1)) fs e) := by
  rw [List.drop_eq_getElem_cons h]; rfl
section
variable {K : Nat} {gw : World} {s : St}
attribute [local simp] awanted xop zOf cz zrow aop ev T0 Slots.put Slots.set Slots.get awr WOk AV.may ofConst abinop aint isConst St.get_push St.get_put St.live AV.fit AV.cells AV.one fieldOf afieldAddr aload ofCells astore splice May eqres env_ti FinP FinZ FinW ares aresL ares1 Fns.addP Fns.add Fns.a0 Fns.a1 Fns.a2 Fns.a3 Fns.a4 abuiltin alenOk alen aindex elemOfT elemId abuildSlice afill chunks ard aappend isSS AV.isStr aminmax placesOf abuild afield aidx isStrD isStrDesc astrop aslice asliceOk abound arange anext aextract aunop aeq AV.ck avseq aveq aconv aconvert onB_t onB_f List.range_succ ti0 ti1 ti2 ti3 ti4 ti5 ti6 ti7 ti8 ti9 ti10 ti11 ti12 ti13 ti14 ti15 ti16 ti17 ti18 ti19 ti20 ti21 ti22 ti23 ti24 ti25 ti26 ti27 ti28 ti29 ti30 ti31 ti32 ti33 ti34 ti35 ti36 ti37 ti38 ti39 ti40 ti41 ti42 ti43 ti44 ti45 ti46 ti47 ti48 ti49 ti50 ti51 ti52 ti53 ti54 ti55 ti56 ti57 ti58 ti59 ti60 ti61 ti62 ti63 ti64 ti65 ti66 ti67 ti68 ti69 ti70 ti71 ti72 ti73 ti74 ti75 ti76 ti77 ti78 ti79 ti80 ti81 ti82 ti83 ti84 ti85 ti86 ti87 ti88 ti89 ti90 ti91 ti92 ti93 ti94 ti95 ti96 ti97 ti98 ti99 ti100 ti101 ti102 ti103 ti104 ti105 ti106 ti107 ti108 ti109 ti110 ti111 ti112 ti113 ti114 ti115 ti116 ti117 ti118 ti119 ti120 ti121 ti122 ti123 ti124 ti125 ti126 ti127 ti128 ti129 ti130 ti131 ti132 ti133 ti134 ti135 ti136 ti137 ti138 ti139 ti140 ti141 ti142 ti143 ti144 ti145 ti146 ti147 ti148 ti149 ti150 ti151 ti152 ti153 ti154 ti155 ti156 ti157 ti158 ti159 ti160 ti161 ti162 ti163 ti164 ti165 ti166 ti167 ti168 ti169 ti170 ti171 ti172 ti173 ti174 ti175 ti176 ti177 ti178 ti179 ti180 ti181 ti182 ti183 ti184 ti185 ti186 ti187 ti188 ti189 ti190 ti191 ti192
noncomputable def Q13 : Fns := (Q12.addN 23 fun xs => match xs with
  | [.agg c, .sl d] => match cAtm.un c, unL cPr d with
    | some t, some e => if t.a.length < 268435456 ∧ e.length < LIM then some (tupR (groundE e t.a)) else none
    | _, _ => none
  | _ => none).addN 72 fun xs => match xs with
  | [.agg c, .sl d] => match cLit.un c, unL cPr d with
    | some l, some e => if e.length < LIM ∧ okE e = true ∧ l.l.v.s.length < LIM ∧ l.r.v.s.length < LIM then some (.tup [.bool (holdsE l e).1, .bool (holdsE l e).2]) else none
    | _, _ => none
  | _ => none
theorem Q13_ok : FOk (env K gw) Q13 := by
  refine (Q12_ok.addN fun xs s r h => ?_).addN fun xs s r h => ?_
  · split at h
    · split at h
      · rename_i hc hd
        split at h
        · rename_i hl
          cases h
          rw [cAtm.cs_un _ _ hc, unL_eq cPr _ _ hd]
          exact ft_RGround _ _ hl.1 hl.2
        · cases h
      · cases h
    · cases h
  · split at h
    · split at h
      · rename_i hc hd
        split at h
        · rename_i hl
          cases h
          rw [cLit.cs_un _ _ hc, unL_eq cPr _ _ hd]
          exact ft_RHolds _ _ hl.1 hl.2.1 hl.2.2.1 hl.2.2.2
        · cases h
      · cases h
    · cases h
theorem Q13_ground (t : Atm) (e : Envr) (h1 : t.a.length < 268435456) (h2 : e.length < LIM) (s2 : St) : Q13 23 [.agg [.str t.p, .sl (t.a.map Tm.cs)], .sl (e.map Pr.cs)] s2 = some (tupR (groundE e t.a), s2, []) := by
  have hA : cAtm.un [.str t.p, .sl (t.a.map Tm.cs)] = some t := cAtm.un_cs t
  have hP := unL_Pr e
  simp [Q13, Fns.addN, nrm, nrm0, hA, hP, h1, h2]
theorem Q13_holds (l : Lit) (e : Envr) (h1 : e.length < LIM) (h2 : okE e = true) (h3 : l.l.v.s.length < LIM) (h4 : l.r.v.s.length < LIM) (s2 : St) : Q13 72 [.agg l.cs, .sl (e.map Pr.cs)] s2 = some (.tup [.bool (holdsE l e).1, .bool (holdsE l e).2], s2, []) := by
  have hA : cLit.un [.int .i64 l.kind, .str l.atom.p, .sl (l.atom.a.map Tm.cs), .str l.op, .bool l.l.b, .str l.l.k, .bool l.l.v.b, .str l.l.v.s, .int .i64 l.l.v.n, .bool l.r.b, .str l.r.k, .bool l.r.v.b, .str l.r.v.s, .int .i64 l.r.v.n] = some l := cLit.un_cs l
  have hP := unL_Pr e
  simp [Q13, Fns.addN, nrm, nrm0, Lit.cs, hA, hP, h1, h2, h3, h4]
theorem Q13_has (fs : List Fc) (p : Str) (row : List V) (h1 : fs.length < LIM) (h2 : ∀ f ∈ fs, okR f.a = true) (h3 : okR row = true) (s2 : St) : Q13 71 [.sl (fs.map Fc.cs), .str p, .sl (row.map V.cs)] s2 = some (.bool (hasE fs p row), s2, []) := by
  have a1 : (vSl cFc).dec (.sl (fs.map Fc.cs)) = some fs := (vSl cFc).dec_enc fs
  have a2 : (vSl cV).dec (.sl (row.map V.cs)) = some row := (vSl cV).dec_enc row
  simp [Q13, Fns.addN, nrm, Q12, Q11, Q10, Q9, Q8, vStr, a1, a2, h1, h3]
  exact h2
theorem row_ok {a : List Tm} {e : Envr} (h1 : a.length < LIM) (h2 : okE e = true) (h3 : okTms a = true) : okR ((groundE e a).getD []) = true := by
  cases hg : groundE e a with
  | none => rfl
  | some r => exact okR_iff.2 ⟨by show r.length < LIM; rw [groundE_len hg]; exact h1, groundE_ok h2 (okTms_iff.1 h3) hg⟩
set_option maxRecDepth 20000 in
set_option maxHeartbeats 1000000 in
theorem ft_RAsks (r : Rl) (fs : List Fc) (e : Envr) (hb : r.body.length < MB) (hw : wL r.body < MB) (hrs : okRlS r = true) (hfl : fs.length < MB) (hfs : okFsS fs = true) (hel : e.length < LIM) (heo : okE e = true) :
    FT (env K gw) NoW 44 [.agg r.cs, .sl (fs.map Fc.cs), .sl (e.map Pr.cs)] s (.bool (asksE r.body fs e)) s := by
  have hrs' := (okRlS_iff.1 hrs).2
  have hfs' := okFsS_iff.1 hfs
  have hfa : ∀ f ∈ fs, okR f.a = true := fun f hf => (okFcS_iff.1 (hfs' f hf)).2
  obtain ⟨⟨hp, ha⟩, b⟩ := r
  simp only at hb hw hrs'
  refine FT.pure (fn := Tryz.f44) Q13_ok mixed Tryz.func44 (by kernel_rfl) (by rfl) rfl rfl (by simp) rfl fun μ w => ?_
  repeat' (first
    | refine WP.t ?_ | refine WP.k ?_ | refine WP.e ?_ | refine Qn ?_ | refine Qr ?_ | refine Qe ?_ | refine Bn ?_ | refine Br ?_ | refine Be ?_ | refine Bx (by decide) ?_
    | (refine RS.nl ?_; refine hk _ _ ?_; clear hk k)
    | ((first | refine RS.st fun A B hA hB => ?_ | refine RQ.st fun A B hA hB => ?_); simp [Rl.cs, onW_t, onW_f, onV_s]; first | ((first | refine hA _ _ _ ?_ ?_ | refine hA _ _ _ ?_ (by first | exact .inl rfl | exact .inr (by decide)) ?_); (focus (simp [Rl.cs] <;> omega)); clear hA hB A B) | (refine hB ?_; clear hA hB A B) | (refine onV_if ?_ ?_; (focus (first | omega | (refine ⟨?_, ?_⟩ <;> omega))); simp only [onV_s]; (first | refine hA _ _ _ ?_ ?_ | refine hA _ _ _ ?_ (by first | exact .inl rfl | exact .inr (by decide)) ?_); (focus (simp [Rl.cs] <;> omega)); clear hA hB A B))
    | (refine RQ.nl ?_; refine hk _ _ ?_; clear hk k)
    | refine WP.sr fun k hk => ?_ | refine WP.r fun k hk => ?_
    | refine WP.sd _ rfl fun k hk => ?_ | refine WP.d _ rfl fun k hk => ?_
    | (refine WP.cc fun A B hA hB => ?_; simp [Rl.cs, onB_t, onB_f]; first | (refine hA ?_; clear hA hB A B) | (refine hB ?_; clear hA hB A B) | (refine onB_if (fun h => hA ?_) (fun h => hB ?_) <;> clear hA hB A B))
    | refine WP.q ?_ | refine WP.b ?_)
  refine WP_loop (fun n T s' => ∃ i : Nat, n + i = b.length ∧ T.get 1 = .sl (fs.map Fc.cs) ∧ T.get 2 = .sl (e.map Pr.cs) ∧ T.get 3 = .ptr s.nx 0 ∧ s'.get s.nx = some (.var 40 [.str hp, .sl (ha.map Tm.cs), .sl (b.map Lit.cs)]) ∧ T.get 7 = .int .i64 i ∧ s.nx < s'.nx ∧ asksE b fs e = asksE (b.drop i) fs e) b.length
    ⟨0, by simp, by simp, by simp, by simp, by simp [St.get_push], by simp, by simp, by simp⟩ ?_
  rintro n T s' ⟨i, hn, h1, h2, h3, hs0, h7, hnx, hm⟩
  have m0 : ¬ s.nx = s'.nx := by omega
  have l1 : s.nx < s'.nx + 1 := by omega
  by_cases hi : i < b.length
  · have hwi : IntKind.i64.wrap ((i : Int) + 1) = (i : Int) + 1 := wrap64 (by omega) (by simp only [MB] at hb; omega)
    have hlt : ((i : Int) < (b.length : Int)) := by omega
    have hbi : b[i]? = some b[i] := List.getElem?_eq_getElem hi
    have hmd := asksE_drop (fs := fs) (e := e) hi
    have hlo := hrs' b[i] (List.getElem_mem hi)
    have hla := wL_mem (List.getElem_mem hi)
    generalize hl : b[i] = l at *
    obtain ⟨o1, o2, o3⟩ := okLitS_iff.1 hlo
    have hQg := fun s2 => Q13_ground l.atom e (by simp only [MB] at hw; omega) hel s2
    have hQh := fun s2 => Q13_holds l e hel heo o2 o3 s2
    have hro := row_ok (a := l.atom.a) (e := e) (by simp only [MB, LIM] at *; omega) heo o1
    have hQs := fun s2 => Q13_has fs l.atom.p ((groundE e l.atom.a).getD []) (by simp only [MB, LIM] at *; omega) hfa hro s2
    have hlcs : l.cs = [.int .i64 l.kind, .str l.atom.p, .sl (l.atom.a.map Tm.cs), .str l.op, .bool l.l.b, .str l.l.k, .bool l.l.v.b, .str l.l.v.s, .int .i64 l.l.v.n, .bool l.r.b, .str l.r.k, .bool l.r.v.b, .str l.r.v.s, .int .i64 l.r.v.n] := rfl
    rw [hlcs] at hQh
    by_cases k2 : l.kind = 2
    · have k2b : (l.kind == 2) = true := by simp [k2]
      have k3b : (l.kind == 3) = false := by simp [k2]
      have hask : askE fs e l = !hasE fs l.atom.p ((groundE e l.atom.a).getD []) := if_pos k2
      obtain ⟨row, ok, hgr, hrow⟩ : ∃ row ok, tupR (groundE e l.atom.a) = .tup [.sl (row.map V.cs), .bool ok] ∧ (groundE e l.atom.a).getD [] = row := by
        cases hg : groundE e l.atom.a with
        | none => exact ⟨[], false, rfl, rfl⟩
        | some r => exact ⟨r, true, rfl, rfl⟩
      rw [hgr] at hQg
      rw [hrow] at hask hQs
      rw [hask] at hmd
      cases hh : hasE fs l.atom.p row with
      | true =>
        rw [hh] at hmd hQs
        repeat' (first
          | refine WP.t ?_ | refine WP.k ?_ | refine WP.e ?_ | refine Qn ?_ | refine Qr ?_ | refine Qe ?_ | refine Bn ?_ | refine Br ?_ | refine Be ?_ | refine Bx (by decide) ?_
          | (refine RS.nl ?_; refine hk _ _ ?_; clear hk k)
          | ((first | refine RS.st fun A B hA hB => ?_ | refine RQ.st fun A B hA hB => ?_); simp [h1, h2, h3, h7, hs0, hnx, m0, l1, hlt, hi, hbi, hl, hwi, hlcs, k2b, k3b, hQg, hQs, onW_t, onW_f, onV_s]; first | ((first | refine hA _ _ _ ?_ ?_ | refine hA _ _ _ ?_ (by first | exact .inl rfl | exact .inr (by decide)) ?_); (focus (simp [h1, h2, h3, h7, hs0, hnx, m0, l1, hlt, hi, hbi, hl, hwi, hlcs, k2b, k3b, hQg, hQs] <;> omega)); clear hA hB A B) | (refine hB ?_; clear hA hB A B) | (refine onV_if ?_ ?_; (focus (first | omega | (refine ⟨?_, ?_⟩ <;> omega))); simp only [onV_s]; (first | refine hA _ _ _ ?_ ?_ | refine hA _ _ _ ?_ (by first | exact .inl rfl | exact .inr (by decide)) ?_); (focus (simp [h1, h2, h3, h7, hs0, hnx, m0, l1, hlt, hi, hbi, hl, hwi, hlcs, k2b, k3b, hQg, hQs] <;> omega)); clear hA hB A B))
          | (refine RQ.nl ?_; refine hk _ _ ?_; clear hk k)
          | refine WP.sr fun k hk => ?_ | refine WP.r fun k hk => ?_
          | refine WP.sd _ rfl fun k hk => ?_ | refine WP.d _ rfl fun k hk => ?_
          | (refine WP.cc fun A B hA hB => ?_; simp [h1, h2, h3, h7, hs0, hnx, m0, l1, hlt, hi, hbi, hl, hwi, hlcs, k2b, k3b, hQg, hQs, onB_t, onB_f]; first | (refine hA ?_; clear hA hB A B) | (refine hB ?_; clear hA hB A B) | (refine onB_if (fun h => hA ?_) (fun h => hB ?_) <;> clear hA hB A B))
          | refine WP.q ?_ | refine WP.b ?_)
        rw [hm, hmd]
        simp
      | false =>
        rw [hh] at hmd hQs
        repeat' (first
          | refine WP.t ?_ | refine WP.k ?_ | refine WP.e ?_ | refine Qn ?_ | refine Qr ?_ | refine Qe ?_ | refine Bn ?_ | refine Br ?_ | refine Be ?_ | refine Bx (by decide) ?_
          | (refine RS.nl ?_; refine hk _ _ ?_; clear hk k)
          | ((first | refine RS.st fun A B hA hB => ?_ | refine RQ.st fun A B hA hB => ?_); simp [h1, h2, h3, h7, hs0, hnx, m0, l1, hlt, hi, hbi, hl, hwi, hlcs, k2b, k3b, hQg, hQs, onW_t, onW_f, onV_s]; first | ((first | refine hA _ _ _ ?_ ?_ | refine hA _ _ _ ?_ (by first | exact .inl rfl | exact .inr (by decide)) ?_); (focus (simp [h1, h2, h3, h7, hs0, hnx, m0, l1, hlt, hi, hbi, hl, hwi, hlcs, k2b, k3b, hQg, hQs] <;> omega)); clear hA hB A B) | (refine hB ?_; clear hA hB A B) | (refine onV_if ?_ ?_; (focus (first | omega | (refine ⟨?_, ?_⟩ <;> omega))); simp only [onV_s]; (first | refine hA _ _ _ ?_ ?_ | refine hA _ _ _ ?_ (by first | exact .inl rfl | exact .inr (by decide)) ?_); (focus (simp [h1, h2, h3, h7, hs0, hnx, m0, l1, hlt, hi, hbi, hl, hwi, hlcs, k2b, k3b, hQg, hQs] <;> omega)); clear hA hB A B))
          | (refine RQ.nl ?_; refine hk _ _ ?_; clear hk k)
          | refine WP.sr fun k hk => ?_ | refine WP.r fun k hk => ?_
          | refine WP.sd _ rfl fun k hk => ?_ | refine WP.d _ rfl fun k hk => ?_
          | (refine WP.cc fun A B hA hB => ?_; simp [h1, h2, h3, h7, hs0, hnx, m0, l1, hlt, hi, hbi, hl, hwi, hlcs, k2b, k3b, hQg, hQs, onB_t, onB_f]; first | (refine hA ?_; clear hA hB A B) | (refine hB ?_; clear hA hB A B) | (refine onB_if (fun h => hA ?_) (fun h => hB ?_) <;> clear hA hB A B))
          | refine WP.q ?_ | refine WP.b ?_)
        refine ⟨n - 1, by omega, i + 1, by omega, by simp [h1], by simp [h2], by simp [h3], ?_, by simp, by simp; omega, by rw [hm, hmd]; rfl⟩
        simp [St.get_push, St.get_put, hs0, m0]
    · have k2b : (l.kind == 2) = false := by simp [k2]
      by_cases k3 : l.kind = 3
      · have k3b : (l.kind == 3) = true := by simp [k3]
        have hask : askE fs e l = (holdsE l e).1 := by unfold askE; rw [if_neg k2, if_pos k3]
        rw [hask] at hmd
        cases hh : (holdsE l e).1 with
        | true =>
          rw [hh] at hmd hQh
          repeat' (first
            | refine WP.t ?_ | refine WP.k ?_ | refine WP.e ?_ | refine Qn ?_ | refine Qr ?_ | refine Qe ?_ | refine Bn ?_ | refine Br ?_ | refine Be ?_ | refine Bx (by decide) ?_
            | (refine RS.nl ?_; refine hk _ _ ?_; clear hk k)
            | ((first | refine RS.st fun A B hA hB => ?_ | refine RQ.st fun A B hA hB => ?_); simp [h1, h2, h3, h7, hs0, hnx, m0, l1, hlt, hi, hbi, hl, hwi, hlcs, k2b, k3b, hQh, onW_t, onW_f, onV_s]; first | ((first | refine hA _ _ _ ?_ ?_ | refine hA _ _ _ ?_ (by first | exact .inl rfl | exact .inr (by decide)) ?_); (focus (simp [h1, h2, h3, h7, hs0, hnx, m0, l1, hlt, hi, hbi, hl, hwi, hlcs, k2b, k3b, hQh] <;> omega)); clear hA hB A B) | (refine hB ?_; clear hA hB A B) | (refine onV_if ?_ ?_; (focus (first | omega | (refine ⟨?_, ?_⟩ <;> omega))); simp only [onV_s]; (first | refine hA _ _ _ ?_ ?_ | refine hA _ _ _ ?_ (by first | exact .inl rfl | exact .inr (by decide)) ?_); (focus (simp [h1, h2, h3, h7, hs0, hnx, m0, l1, hlt, hi, hbi, hl, hwi, hlcs, k2b, k3b, hQh] <;> omega)); clear hA hB A B))
            | (refine RQ.nl ?_; refine hk _ _ ?_; clear hk k)
            | refine WP.sr fun k hk => ?_ | refine WP.r fun k hk => ?_
            | refine WP.sd _ rfl fun k hk => ?_ | refine WP.d _ rfl fun k hk => ?_
            | (refine WP.cc fun A B hA hB => ?_; simp [h1, h2, h3, h7, hs0, hnx, m0, l1, hlt, hi, hbi, hl, hwi, hlcs, k2b, k3b, hQh, onB_t, onB_f]; first | (refine hA ?_; clear hA hB A B) | (refine hB ?_; clear hA hB A B) | (refine onB_if (fun h => hA ?_) (fun h => hB ?_) <;> clear hA hB A B))
            | refine WP.q ?_ | refine WP.b ?_)
          refine ⟨n - 1, by omega, i + 1, by omega, by simp [h1], by simp [h2], by simp [h3], ?_, by simp, by simp; omega, by rw [hm, hmd]; rfl⟩
          simp [St.get_push, St.get_put, hs0, m0]
        | false =>
          rw [hh] at hmd hQh
          repeat' (first
            | refine WP.t ?_ | refine WP.k ?_ | refine WP.e ?_ | refine Qn ?_ | refine Qr ?_ | refine Qe ?_ | refine Bn ?_ | refine Br ?_ | refine Be ?_ | refine Bx (by decide) ?_
            | (refine RS.nl ?_; refine hk _ _ ?_; clear hk k)
            | ((first | refine RS.st fun A B hA hB => ?_ | refine RQ.st fun A B hA hB => ?_); simp [h1, h2, h3, h7, hs0, hnx, m0, l1, hlt, hi, hbi, hl, hwi, hlcs, k2b, k3b, hQh, onW_t, onW_f, onV_s]; first | ((first | refine hA _ _ _ ?_ ?_ | refine hA _ _ _ ?_ (by first | exact .inl rfl | exact .inr (by decide)) ?_); (focus (simp [h1, h2, h3, h7, hs0, hnx, m0, l1, hlt, hi, hbi, hl, hwi, hlcs, k2b, k3b, hQh] <;> omega)); clear hA hB A B) | (refine hB ?_; clear hA hB A B) | (refine onV_if ?_ ?_; (focus (first | omega | (refine ⟨?_, ?_⟩ <;> omega))); simp only [onV_s]; (first | refine hA _ _ _ ?_ ?_ | refine hA _ _ _ ?_ (by first | exact .inl rfl | exact .inr (by decide)) ?_); (focus (simp [h1, h2, h3, h7, hs0, hnx, m0, l1, hlt, hi, hbi, hl, hwi, hlcs, k2b, k3b, hQh] <;> omega)); clear hA hB A B))
            | (refine RQ.nl ?_; refine hk _ _ ?_; clear hk k)
            | refine WP.sr fun k hk => ?_ | refine WP.r fun k hk => ?_
            | refine WP.sd _ rfl fun k hk => ?_ | refine WP.d _ rfl fun k hk => ?_
            | (refine WP.cc fun A B hA hB => ?_; simp [h1, h2, h3, h7, hs0, hnx, m0, l1, hlt, hi, hbi, hl, hwi, hlcs, k2b, k3b, hQh, onB_t, onB_f]; first | (refine hA ?_; clear hA hB A B) | (refine hB ?_; clear hA hB A B) | (refine onB_if (fun h => hA ?_) (fun h => hB ?_) <;> clear hA hB A B))
            | refine WP.q ?_ | refine WP.b ?_)
          rw [hm, hmd]
          simp
      · have k3b : (l.kind == 3) = false := by simp [k3]
        have hask : askE fs e l = true := by unfold askE; rw [if_neg k2, if_neg k3]
        rw [hask] at hmd
        repeat' (first
          | refine WP.t ?_ | refine WP.k ?_ | refine WP.e ?_ | refine Qn ?_ | refine Qr ?_ | refine Qe ?_ | refine Bn ?_ | refine Br ?_ | refine Be ?_ | refine Bx (by decide) ?_
          | (refine RS.nl ?_; refine hk _ _ ?_; clear hk k)
          | ((first | refine RS.st fun A B hA hB => ?_ | refine RQ.st fun A B hA hB => ?_); simp [h1, h2, h3, h7, hs0, hnx, m0, l1, hlt, hi, hbi, hl, hwi, hlcs, k2b, k3b, onW_t, onW_f, onV_s]; first | ((first | refine hA _ _ _ ?_ ?_ | refine hA _ _ _ ?_ (by first | exact .inl rfl | exact .inr (by decide)) ?_); (focus (simp [h1, h2, h3, h7, hs0, hnx, m0, l1, hlt, hi, hbi, hl, hwi, hlcs, k2b, k3b] <;> omega)); clear hA hB A B) | (refine hB ?_; clear hA hB A B) | (refine onV_if ?_ ?_; (focus (first | omega | (refine ⟨?_, ?_⟩ <;> omega))); simp only [onV_s]; (first | refine hA _ _ _ ?_ ?_ | refine hA _ _ _ ?_ (by first | exact .inl rfl | exact .inr (by decide)) ?_); (focus (simp [h1, h2, h3, h7, hs0, hnx, m0, l1, hlt, hi, hbi, hl, hwi, hlcs, k2b, k3b] <;> omega)); clear hA hB A B))
          | (refine RQ.nl ?_; refine hk _ _ ?_; clear hk k)
          | refine WP.sr fun k hk => ?_ | refine WP.r fun k hk => ?_
          | refine WP.sd _ rfl fun k hk => ?_ | refine WP.d _ rfl fun k hk => ?_
          | (refine WP.cc fun A B hA hB => ?_; simp [h1, h2, h3, h7, hs0, hnx, m0, l1, hlt, hi, hbi, hl, hwi, hlcs, k2b, k3b, onB_t, onB_f]; first | (refine hA ?_; clear hA hB A B) | (refine hB ?_; clear hA hB A B) | (refine onB_if (fun h => hA ?_) (fun h => hB ?_) <;> clear hA hB A B))
          | refine WP.q ?_ | refine WP.b ?_)
        refine ⟨n - 1, by omega, i + 1, by omega, by simp [h1], by simp [h2], by simp [h3], ?_, by simp, by simp; omega, by rw [hm, hmd]; rfl⟩
        simp [St.get_push, St.get_put, hs0, m0]
  · have hlt : ¬ ((i : Int) < (b.length : Int)) := by omega
    have hm2 : asksE b fs e = true := by
      rw [hm, List.drop_eq_nil_of_le (by omega)]; rfl
    repeat' (first
      | refine WP.t ?_ | refine WP.k ?_ | refine WP.e ?_ | refine Qn ?_ | refine Qr ?_ | refine Qe ?_ | refine Bn ?_ | refine Br ?_ | refine Be ?_ | refine Bx (by decide) ?_
      | (refine RS.nl ?_; refine hk _ _ ?_; clear hk k)
      | ((first | refine RS.st fun A B hA hB => ?_ | refine RQ.st fun A B hA hB => ?_); simp [h1, h2, h3, h7, hs0, hnx, m0, l1, hlt, onW_t, onW_f, onV_s]; first | ((first | refine hA _ _ _ ?_ ?_ | refine hA _ _ _ ?_ (by first | exact .inl rfl | exact .inr (by decide)) ?_); (focus (simp [h1, h2, h3, h7, hs0, hnx, m0, l1, hlt] <;> omega)); clear hA hB A B) | (refine hB ?_; clear hA hB A B) | (refine onV_if ?_ ?_; (focus (first | omega | (refine ⟨?_, ?_⟩ <;> omega))); simp only [onV_s]; (first | refine hA _ _ _ ?_ ?_ | refine hA _ _ _ ?_ (by first | exact .inl rfl | exact .inr (by decide)) ?_); (focus (simp [h1, h2, h3, h7, hs0, hnx, m0, l1, hlt] <;> omega)); clear hA hB A B))
      | (refine RQ.nl ?_; refine hk _ _ ?_; clear hk k)
      | refine WP.sr fun k hk => ?_ | refine WP.r fun k hk => ?_
      | refine WP.sd _ rfl fun k hk => ?_ | refine WP.d _ rfl fun k hk => ?_
      | (refine WP.cc fun A B hA hB => ?_; simp [h1, h2, h3, h7, hs0, hnx, m0, l1, hlt, onB_t, onB_f]; first | (refine hA ?_; clear hA hB A B) | (refine hB ?_; clear hA hB A B) | (refine onB_if (fun h => hA ?_) (fun h => hB ?_) <;> clear hA hB A B))
      | refine WP.q ?_ | refine WP.b ?_)
    simp [hm2]
end
end Go.Am
namespace Go.Am
open Go.Proofs
theorem blI : ∀ x : List UInt8, Op.bytesLess x x = false
  | [] => rfl
  | a :: x => by simp [Op.bytesLess, blI x]
theorem cmpS_zero {x y : Str} : cmpS x y = 0 ↔ x = y := by
  unfold cmpS
  constructor
  · intro h
    split at h
    · cases h
    · split at h
      · rename_i h2; simpa using h2
      · cases h
  · rintro rfl
    simp [blI]
theorem cmpF_has (x : Fc) (p : Str) (row : List V) : (cmpF x ⟨p, row⟩ == 0) = (x.p == p && cmpT x.a row == 0) := by
  unfold cmpF
  by_cases h : x.p = p
  · simp only
    rw [if_pos (cmpS_zero.2 h)]
    simp [h]
  · have h2 : ¬ cmpS x.p p = 0 := fun e => h (cmpS_zero.1 e)
    have e1 : (cmpS x.p p == 0) = false := by rw [beq_eq_false_iff_ne]; exact h2
    have e2 : (x.p == p) = false := by rw [beq_eq_false_iff_ne]; exact h
    simp only
    rw [if_neg h2, e1, e2]
    rfl
theorem any_has (fs : List Fc) (p : Str) (row : List V) : (fs.any fun x => cmpF x ⟨p, row⟩ == 0) = hasE fs p row := by
  unfold hasE
  congr 1
  funext x
  exact cmpF_has x p row
def grE (e : Envr) (b : List Lit) : Bool := b.all fun l => !(l.kind == 2) || (groundE e l.atom.a).isSome
theorem grE_drop {b : List Lit} {e : Envr} {i : Nat} (h : i < b.length) : grE e (b.drop i) = ((!(b[i].kind == 2) || (groundE e b[i].atom.a).isSome) && grE e (b.drop (i + 1))) := by
  rw [List.drop_eq_getElem_cons h]; rfl
theorem holds_split (l : Lit) (fs : List Fc) (e : Envr) : holdsL l fs e = ((!(l.kind == 2) || (groundE e l.atom.a).isSome) && askE fs e l) := by
  unfold holdsL askE
  by_cases h2 : l.kind = 2
  · simp only [h2, if_true]
    cases hg : groundE e l.atom.a with
    | none => simp
    | some row => simp [any_has]
  · simp [h2]
theorem asks_split (b : List Lit) (fs : List Fc) (e : Envr) : (!(b.any fun l => !holdsL l fs e)) = (grE e b && asksE b fs e) := by
  unfold grE asksE
  induction b with
  | nil => rfl
  | cons l b ih =>
    simp only [List.any_cons, List.all_cons, Bool.not_or, Bool.not_not, ih]
    rw [holds_split]
    generalize (!(l.kind == 2) || (groundE e l.atom.a).isSome) = x
    generalize askE fs e l = y
    cases x <;> cases y <;> simp
theorem solveL_ok : ∀ {b : List Lit} {l l' : List Nd} {e e' : Envr}, okE e = true → (∀ k ∈ l, ∀ v ∈ k.f.a, v.s.length < LIM) → solveL b l e = some (e', l') → okE e' = true
  | [], l, l', e, e', he, _, h => by cases h; exact he
  | x :: b, l, l', e, e', he, hl, h => by
    simp only [solveL] at h
    split at h
    · split at h
      · cases h
      · split at h
        · split at h
          · cases h
          · rename_i hm
            exact solveL_ok (matchE_ok he (hl _ (by simp)) hm) (fun k hk => hl k (by simp [hk])) h
        · cases h
    · exact solveL_ok he hl h
theorem standsE_none {g : Pg} {fs : List Fc} {n : Nd} {j : Nat} (hj : n.r = (j : Int)) (h : g.rules[j]? = none) : standsE g fs n = false := by
  unfold standsE
  rw [if_neg (by omega), hj, Int.toNat_natCast, h]
theorem standsE_some {g : Pg} {fs : List Fc} {n : Nd} {j : Nat} {r : Rl} (hj : n.r = (j : Int)) (h : g.rules[j]? = some r) : standsE g fs n = match matchE r.head.a n.f.a [] with
    | none => false
    | some e => if r.head.p = n.f.p then (match solveL r.body n.k e with
      | none => false
      | some (e', left) => decide (left.length = 0) && (grE e' r.body && asksE r.body fs e')) else false := by
  unfold standsE
  rw [if_neg (by omega), hj, Int.toNat_natCast, h]
  simp only
  unfold solvedT
  cases hm : matchE r.head.a n.f.a [] with
  | none => simp
  | some e =>
    simp only
    by_cases hp : r.head.p = n.f.p
    · rw [if_pos hp, if_pos hp]
      cases hs : solveL r.body n.k e with
      | none => simp
      | some p => simp only; rw [asks_split]
    · rw [if_neg hp, if_neg hp]; simp
section
variable {K : Nat} {gw : World} {s : St}
attribute [local simp] awanted xop zOf cz zrow aop ev T0 Slots.put Slots.set Slots.get awr WOk AV.may ofConst abinop aint isConst St.get_push St.get_put St.live AV.fit AV.cells AV.one fieldOf afieldAddr aload ofCells astore splice May eqres env_ti FinP FinZ FinW ares aresL ares1 Fns.addP Fns.add Fns.a0 Fns.a1 Fns.a2 Fns.a3 Fns.a4 abuiltin alenOk alen aindex elemOfT elemId abuildSlice afill chunks ard aappend isSS AV.isStr aminmax placesOf abuild afield aidx isStrD isStrDesc astrop aslice asliceOk abound arange anext aextract aunop aeq AV.ck avseq aveq aconv aconvert onB_t onB_f List.range_succ ti0 ti1 ti2 ti3 ti4 ti5 ti6 ti7 ti8 ti9 ti10 ti11 ti12 ti13 ti14 ti15 ti16 ti17 ti18 ti19 ti20 ti21 ti22 ti23 ti24 ti25 ti26 ti27 ti28 ti29 ti30 ti31 ti32 ti33 ti34 ti35 ti36 ti37 ti38 ti39 ti40 ti41 ti42 ti43 ti44 ti45 ti46 ti47 ti48 ti49 ti50 ti51 ti52 ti53 ti54 ti55 ti56 ti57 ti58 ti59 ti60 ti61 ti62 ti63 ti64 ti65 ti66 ti67 ti68 ti69 ti70 ti71 ti72 ti73 ti74 ti75 ti76 ti77 ti78 ti79 ti80 ti81 ti82 ti83 ti84 ti85 ti86 ti87 ti88 ti89 ti90 ti91 ti92 ti93 ti94 ti95 ti96 ti97 ti98 ti99 ti100 ti101 ti102 ti103 ti104 ti105 ti106 ti107 ti108 ti109 ti110 ti111 ti112 ti113 ti114 ti115 ti116 ti117 ti118 ti119 ti120 ti121 ti122 ti123 ti124 ti125 ti126 ti127 ti128 ti129 ti130 ti131 ti132 ti133 ti134 ti135 ti136 ti137 ti138 ti139 ti140 ti141 ti142 ti143 ti144 ti145 ti146 ti147 ti148 ti149 ti150 ti151 ti152 ti153 ti154 ti155 ti156 ti157 ti158 ti159 ti160 ti161 ti162 ti163 ti164 ti165 ti166 ti167 ti168 ti169 ti170 ti171 ti172 ti173 ti174 ti175 ti176 ti177 ti178 ti179 ti180 ti181 ti182 ti183 ti184 ti185 ti186 ti187 ti188 ti189 ti190 ti191 ti192
noncomputable def Q14 : Fns := Q13.addP 44 fun xs => match xs with
  | [.agg c, .sl d, .sl x] => match cRl.un c, unL cFc d, unL cPr x with
    | some r, some fs, some e => if r.body.length < MB ∧ wL r.body < MB ∧ okRlS r = true ∧ fs.length < MB ∧ okFsS fs = true ∧ e.length < LIM ∧ okE e = true then some (.bool (asksE r.body fs e)) else none
    | _, _, _ => none
  | _ => none
theorem Q14_ok : FOk (env K gw) Q14 := by
  refine Q13_ok.addP fun xs s r h => ?_
  split at h
  · split at h
    · rename_i hc hd hx
      split at h
      · rename_i hl
        cases h
        rw [cRl.cs_un _ _ hc, unL_eq cFc _ _ hd, unL_eq cPr _ _ hx]
        exact ft_RAsks _ _ _ hl.1 hl.2.1 hl.2.2.1 hl.2.2.2.1 hl.2.2.2.2.1 hl.2.2.2.2.2.1 hl.2.2.2.2.2.2
      · cases h
    · cases h
  · cases h
theorem Q14_asks (r : Rl) (fs : List Fc) (e : Envr) (h1 : r.body.length < MB) (h2 : wL r.body < MB) (h3 : okRlS r = true) (h4 : fs.length < MB) (h5 : okFsS fs = true) (h6 : e.length < LIM) (h7 : okE e = true) (s2 : St) : Q14 44 [.agg r.cs, .sl (fs.map Fc.cs), .sl (e.map Pr.cs)] s2 = some (.bool (asksE r.body fs e), s2, []) := by
  have hA : cRl.un r.cs = some r := cRl.un_cs r
  have hF := unL_Fc fs
  have hP := unL_Pr e
  simp only [MB] at h1 h2 h4
  simp [Q14, Fns.addP, hA, hF, hP, h1, h2, h3, h4, h5, h6, h7]
theorem Q14_ground (t : Atm) (e : Envr) (h1 : t.a.length < 268435456) (h2 : e.length < LIM) (s2 : St) : Q14 23 [.agg [.str t.p, .sl (t.a.map Tm.cs)], .sl (e.map Pr.cs)] s2 = some (tupR (groundE e t.a), s2, []) := by
  rw [← Q13_ground t e h1 h2 s2]
  simp [Q14]
theorem Q14_match (t : Atm) (r : List V) (e : Envr) (h1 : e.length + t.a.length < 268435456) (h2 : r.length < 268435456) (h3 : ∀ v ∈ r, v.s.length < LIM) (h4 : okE e = true) (h5 : okTms t.a = true) (s2 : St) : Q14 42 [.agg [.str t.p, .sl (t.a.map Tm.cs)], .sl (r.map V.cs), .sl (e.map Pr.cs)] s2 = some (tupE (matchE t.a r e), s2, []) := by
  have hA : cAtm.un [.str t.p, .sl (t.a.map Tm.cs)] = some t := cAtm.un_cs t
  have hV := unL_V r
  have hP := unL_Pr e
  simp [Q14, Q13, Q12, Fns.addN, nrm, nrm0, hA, hV, hP, h1, h2, h4, h5]
  exact h3
theorem Q14_match0 (t : Atm) (r : List V) (h1 : t.a.length < 268435456) (h2 : r.length < 268435456) (h3 : ∀ v ∈ r, v.s.length < LIM) (h5 : okTms t.a = true) (s2 : St) : Q14 42 [.agg [.str t.p, .sl (t.a.map Tm.cs)], .sl (r.map V.cs), .nsl] s2 = some (tupE (matchE t.a r []), s2, []) := by
  have hA : cAtm.un [.str t.p, .sl (t.a.map Tm.cs)] = some t := cAtm.un_cs t
  have hV := unL_V r
  have h4 : okE [] = true := rfl
  simp [Q14, Q13, Q12, Fns.addN, nrm, nrm0, hA, hV, h1, h2, h4, h5]
  exact h3
end
end Go.Am
namespace Go.Am
open Go.Proofs
def okKS (l : List Nd) : Bool := l.all fun k => k.f.a.all fun v => decide (v.s.length < LIM)
theorem okKS_iff {l : List Nd} : okKS l = true ↔ ∀ k ∈ l, ∀ v ∈ k.f.a, v.s.length < LIM := by simp [okKS]
section
variable {K : Nat} {gw : World} {s : St}
attribute [local simp] awanted xop zOf cz zrow aop ev T0 Slots.put Slots.set Slots.get awr WOk AV.may ofConst abinop aint isConst St.get_push St.get_put St.live AV.fit AV.cells AV.one fieldOf afieldAddr aload ofCells astore splice May eqres env_ti FinP FinZ FinW ares aresL ares1 Fns.addP Fns.add Fns.a0 Fns.a1 Fns.a2 Fns.a3 Fns.a4 abuiltin alenOk alen aindex elemOfT elemId abuildSlice afill chunks ard aappend isSS AV.isStr aminmax placesOf abuild afield aidx isStrD isStrDesc astrop aslice asliceOk abound arange anext aextract aunop aeq AV.ck avseq aveq aconv aconvert onB_t onB_f List.range_succ ti0 ti1 ti2 ti3 ti4 ti5 ti6 ti7 ti8 ti9 ti10 ti11 ti12 ti13 ti14 ti15 ti16 ti17 ti18 ti19 ti20 ti21 ti22 ti23 ti24 ti25 ti26 ti27 ti28 ti29 ti30 ti31 ti32 ti33 ti34 ti35 ti36 ti37 ti38 ti39 ti40 ti41 ti42 ti43 ti44 ti45 ti46 ti47 ti48 ti49 ti50 ti51 ti52 ti53 ti54 ti55 ti56 ti57 ti58 ti59 ti60 ti61 ti62 ti63 ti64 ti65 ti66 ti67 ti68 ti69 ti70 ti71 ti72 ti73 ti74 ti75 ti76 ti77 ti78 ti79 ti80 ti81 ti82 ti83 ti84 ti85 ti86 ti87 ti88 ti89 ti90 ti91 ti92 ti93 ti94 ti95 ti96 ti97 ti98 ti99 ti100 ti101 ti102 ti103 ti104 ti105 ti106 ti107 ti108 ti109 ti110 ti111 ti112 ti113 ti114 ti115 ti116 ti117 ti118 ti119 ti120 ti121 ti122 ti123 ti124 ti125 ti126 ti127 ti128 ti129 ti130 ti131 ti132 ti133 ti134 ti135 ti136 ti137 ti138 ti139 ti140 ti141 ti142 ti143 ti144 ti145 ti146 ti147 ti148 ti149 ti150 ti151 ti152 ti153 ti154 ti155 ti156 ti157 ti158 ti159 ti160 ti161 ti162 ti163 ti164 ti165 ti166 ti167 ti168 ti169 ti170 ti171 ti172 ti173 ti174 ti175 ti176 ti177 ti178 ti179 ti180 ti181 ti182 ti183 ti184 ti185 ti186 ti187 ti188 ti189 ti190 ti191 ti192
set_option maxRecDepth 20000 in
set_option maxHeartbeats 2000000 in
theorem ft_RStands (g : Pg) (fs : List Fc) (n : Nd) (hg : okPg g = true) (hgs : okPgS g = true) (hfl : fs.length < MB) (hfs : okFsS fs = true) (hn : n.f.a.length < MB) (hns : ∀ v ∈ n.f.a, v.s.length < LIM) (hkl : okK n.k = true) (hks : okKS n.k = true) :
    FT (env K gw) NoW 51 [.agg g.cs, .sl (fs.map Fc.cs), .agg n.cs] s (.bool (standsE g fs n)) s := by
  rw [okPg_iff] at hg
  rw [okPgS_iff] at hgs
  have hcs := Nd.cs_eq n
  have hgcs : g.cs = [.sl (g.decls.map Dc.cs), .sl (g.rules.map Rl.cs)] := rfl
  refine FT.pure (fn := Tryz.f51) Q14_ok mixed Tryz.func51 (by kernel_rfl) (by rfl) rfl rfl (by simp) rfl fun μ w => ?_
  by_cases hneg : n.r < 0
  · have hd : standsE g fs n = false := by unfold standsE; rw [if_pos hneg]
    rw [hd]
    repeat' (first
      | refine WP.t ?_ | refine WP.k ?_ | refine WP.e ?_ | refine Qn ?_ | refine Qr ?_ | refine Qe ?_ | refine Bn ?_ | refine Br ?_ | refine Be ?_ | refine Bx (by decide) ?_
      | (refine RS.nl ?_; refine hk _ _ ?_; clear hk k)
      | ((first | refine RS.st fun A B hA hB => ?_ | refine RQ.st fun A B hA hB => ?_); simp [hcs, hgcs, hneg, onW_t, onW_f, onV_s]; first | ((first | refine hA _ _ _ ?_ ?_ | refine hA _ _ _ ?_ (by first | exact .inl rfl | exact .inr (by decide)) ?_); (focus (simp [hcs, hgcs, hneg] <;> omega)); clear hA hB A B) | (refine hB ?_; clear hA hB A B) | (refine onV_if ?_ ?_; (focus (first | omega | (refine ⟨?_, ?_⟩ <;> omega))); simp only [onV_s]; (first | refine hA _ _ _ ?_ ?_ | refine hA _ _ _ ?_ (by first | exact .inl rfl | exact .inr (by decide)) ?_); (focus (simp [hcs, hgcs, hneg] <;> omega)); clear hA hB A B))
      | (refine RQ.nl ?_; refine hk _ _ ?_; clear hk k)
      | refine WP.sr fun k hk => ?_ | refine WP.r fun k hk => ?_
      | refine WP.sd _ rfl fun k hk => ?_ | refine WP.d _ rfl fun k hk => ?_
      | (refine WP.cc fun A B hA hB => ?_; simp [hcs, hgcs, hneg, onB_t, onB_f]; first | (refine hA ?_; clear hA hB A B) | (refine hB ?_; clear hA hB A B) | (refine onB_if (fun h => hA ?_) (fun h => hB ?_) <;> clear hA hB A B))
      | refine WP.q ?_ | refine WP.b ?_)
    simp
  · obtain ⟨j, hj⟩ := Int.eq_ofNat_of_zero_le (Int.not_lt.1 hneg)
    have hj' : n.r = (j : Int) := hj
    rw [hj] at hcs
    have hneg' : ¬ ((j : Int) < 0) := by omega
    cases hr : g.rules[j]? with
    | none =>
      have hle : g.rules.length ≤ j := List.getElem?_eq_none_iff.1 hr
      have hge : ((g.rules.length : Nat) : Int) ≤ (j : Int) := by omega
      rw [standsE_none hj' hr]
      repeat' (first
        | refine WP.t ?_ | refine WP.k ?_ | refine WP.e ?_ | refine Qn ?_ | refine Qr ?_ | refine Qe ?_ | refine Bn ?_ | refine Br ?_ | refine Be ?_ | refine Bx (by decide) ?_
        | (refine RS.nl ?_; refine hk _ _ ?_; clear hk k)
        | ((first | refine RS.st fun A B hA hB => ?_ | refine RQ.st fun A B hA hB => ?_); simp [hcs, hgcs, hneg', hge, hle, onW_t, onW_f, onV_s]; first | ((first | refine hA _ _ _ ?_ ?_ | refine hA _ _ _ ?_ (by first | exact .inl rfl | exact .inr (by decide)) ?_); (focus (simp [hcs, hgcs, hneg', hge, hle] <;> omega)); clear hA hB A B) | (refine hB ?_; clear hA hB A B) | (refine onV_if ?_ ?_; (focus (first | omega | (refine ⟨?_, ?_⟩ <;> omega))); simp only [onV_s]; (first | refine hA _ _ _ ?_ ?_ | refine hA _ _ _ ?_ (by first | exact .inl rfl | exact .inr (by decide)) ?_); (focus (simp [hcs, hgcs, hneg', hge, hle] <;> omega)); clear hA hB A B))
        | (refine RQ.nl ?_; refine hk _ _ ?_; clear hk k)
        | refine WP.sr fun k hk => ?_ | refine WP.r fun k hk => ?_
        | refine WP.sd _ rfl fun k hk => ?_ | refine WP.d _ rfl fun k hk => ?_
        | (refine WP.cc fun A B hA hB => ?_; simp [hcs, hgcs, hneg', hge, hle, onB_t, onB_f]; first | (refine hA ?_; clear hA hB A B) | (refine hB ?_; clear hA hB A B) | (refine onB_if (fun h => hA ?_) (fun h => hB ?_) <;> clear hA hB A B))
        | refine WP.q ?_ | refine WP.b ?_)
      simp
    | some r =>
      obtain ⟨hjl, hjr⟩ := List.getElem?_eq_some_iff.1 hr
      have hge : ¬ ((g.rules.length : Nat) : Int) ≤ (j : Int) := by omega
      have hd := standsE_some (fs := fs) hj' hr
      have hok' := okRl_iff.1 (hg.2 r (List.mem_of_getElem? hr))
      have hrs := hgs r (List.mem_of_getElem? hr)
      have hrs' := okRlS_iff.1 hrs
      obtain ⟨⟨hp, ha⟩, b⟩ := r
      simp only at hd hok' hrs'
      have hm0 := fun s2 => Q14_match0 ⟨hp, ha⟩ n.f.a (by simp only [MB] at hok' ⊢; omega) (by simp only [MB] at hn; omega) hns hrs'.1 s2
      simp only at hm0
      cases hm : matchE ha n.f.a [] with
      | none =>
        rw [hm] at hm0 hd
        rw [hd]
        repeat' (first
          | refine WP.t ?_ | refine WP.k ?_ | refine WP.e ?_ | refine Qn ?_ | refine Qr ?_ | refine Qe ?_ | refine Bn ?_ | refine Br ?_ | refine Be ?_ | refine Bx (by decide) ?_
          | (refine RS.nl ?_; refine hk _ _ ?_; clear hk k)
          | ((first | refine RS.st fun A B hA hB => ?_ | refine RQ.st fun A B hA hB => ?_); simp [hcs, hgcs, hneg', hge, hjl, hr, hjr, hm0, tupE, Rl.cs, onW_t, onW_f, onV_s]; first | ((first | refine hA _ _ _ ?_ ?_ | refine hA _ _ _ ?_ (by first | exact .inl rfl | exact .inr (by decide)) ?_); (focus (simp [hcs, hgcs, hneg', hge, hjl, hr, hjr, hm0, tupE, Rl.cs] <;> omega)); clear hA hB A B) | (refine hB ?_; clear hA hB A B) | (refine onV_if ?_ ?_; (focus (first | omega | (refine ⟨?_, ?_⟩ <;> omega))); simp only [onV_s]; (first | refine hA _ _ _ ?_ ?_ | refine hA _ _ _ ?_ (by first | exact .inl rfl | exact .inr (by decide)) ?_); (focus (simp [hcs, hgcs, hneg', hge, hjl, hr, hjr, hm0, tupE, Rl.cs] <;> omega)); clear hA hB A B))
          | (refine RQ.nl ?_; refine hk _ _ ?_; clear hk k)
          | refine WP.sr fun k hk => ?_ | refine WP.r fun k hk => ?_
          | refine WP.sd _ rfl fun k hk => ?_ | refine WP.d _ rfl fun k hk => ?_
          | (refine WP.cc fun A B hA hB => ?_; simp [hcs, hgcs, hneg', hge, hjl, hr, hjr, hm0, tupE, Rl.cs, onB_t, onB_f]; first | (refine hA ?_; clear hA hB A B) | (refine hB ?_; clear hA hB A B) | (refine onB_if (fun h => hA ?_) (fun h => hB ?_) <;> clear hA hB A B))
          | refine WP.q ?_ | refine WP.b ?_)
        simp
      | some e0 =>
        have hel := matchE_len hm
        have heo0 : okE e0 = true := matchE_ok rfl hns hm
        rw [hm] at hm0 hd
        simp only at hd
        by_cases hpp : hp = n.f.p
        · have hpb : (hp == n.f.p) = true := by simp [hpp]
          rw [if_pos hpp] at hd
          have hkl' := okK_iff.1 hkl
          have hks' := okKS_iff.1 hks
          have hnl := hkl'.1
          have hbl := hok'.2
          repeat' (first
            | refine WP.t ?_ | refine WP.k ?_ | refine WP.e ?_ | refine Qn ?_ | refine Qr ?_ | refine Qe ?_ | refine Bn ?_ | refine Br ?_ | refine Be ?_ | refine Bx (by decide) ?_
            | (refine RS.nl ?_; refine hk _ _ ?_; clear hk k)
            | ((first | refine RS.st fun A B hA hB => ?_ | refine RQ.st fun A B hA hB => ?_); simp [hcs, hgcs, hneg', hge, hjl, hr, hjr, hm0, tupE, Rl.cs, hpb, onW_t, onW_f, onV_s]; first | ((first | refine hA _ _ _ ?_ ?_ | refine hA _ _ _ ?_ (by first | exact .inl rfl | exact .inr (by decide)) ?_); (focus (simp [hcs, hgcs, hneg', hge, hjl, hr, hjr, hm0, tupE, Rl.cs, hpb] <;> omega)); clear hA hB A B) | (refine hB ?_; clear hA hB A B) | (refine onV_if ?_ ?_; (focus (first | omega | (refine ⟨?_, ?_⟩ <;> omega))); simp only [onV_s]; (first | refine hA _ _ _ ?_ ?_ | refine hA _ _ _ ?_ (by first | exact .inl rfl | exact .inr (by decide)) ?_); (focus (simp [hcs, hgcs, hneg', hge, hjl, hr, hjr, hm0, tupE, Rl.cs, hpb] <;> omega)); clear hA hB A B))
            | (refine RQ.nl ?_; refine hk _ _ ?_; clear hk k)
            | refine WP.sr fun k hk => ?_ | refine WP.r fun k hk => ?_
            | refine WP.sd _ rfl fun k hk => ?_ | refine WP.d _ rfl fun k hk => ?_
            | (refine WP.cc fun A B hA hB => ?_; simp [hcs, hgcs, hneg', hge, hjl, hr, hjr, hm0, tupE, Rl.cs, hpb, onB_t, onB_f]; first | (refine hA ?_; clear hA hB A B) | (refine hB ?_; clear hA hB A B) | (refine onB_if (fun h => hA ?_) (fun h => hB ?_) <;> clear hA hB A B))
            | refine WP.q ?_ | refine WP.b ?_)
          refine WP_loop (fun m T s' => ∃ (i q : Nat) (e : Envr), m + i = b.length ∧ T.get 1 = .sl (fs.map Fc.cs) ∧ T.get 3 = .ptr s.nx 0 ∧ T.get 5 = .ptr (s.nx + 1) 0 ∧ T.get 7 = .ptr (s.nx + 1 + 1) 0 ∧
            s'.get s.nx = some (.var 25 [.sl (g.decls.map Dc.cs), .sl (g.rules.map Rl.cs)]) ∧ s'.get (s.nx + 1) = some (.var 34 [.str n.f.p, .sl (n.f.a.map V.cs), .int .i64 j, .sl (n.k.map Nd.cs)]) ∧ s'.get (s.nx + 1 + 1) = some (.var 40 [.str hp, .sl (ha.map Tm.cs), .sl (b.map Lit.cs)]) ∧ s.nx + 1 + 1 < s'.nx ∧
            T.get 8 = .sl (e.map Pr.cs) ∧ T.get 10 = .int .i64 q ∧ T.get 11 = .int .i64 i ∧ q ≤ n.k.length ∧ e.length + wL (b.drop i) < MB ∧ okE e = true ∧ solveL b n.k e0 = solveL (b.drop i) (n.k.drop q) e) b.length
            ⟨0, 0, e0, by simp, by simp, by simp, by simp, by simp, by simp [St.get_push, St.get_put, hcs], by simp [St.get_push, St.get_put, hcs], by simp [St.get_push, St.get_put], by simp, by simp, by simp, by simp, by simp, by simp at hel ⊢; omega, heo0, by simp⟩ ?_
          rintro m T s' ⟨i, q, e, hmi, h1, h3, h5, h7, hg0, hg1, hg2, hnx, h8, h10, h11, hqk, hwb, heo, hsol⟩
          have hnx0 : s.nx < s'.nx := by omega
          have hnx1 : s.nx + 1 < s'.nx := by omega
          by_cases hi : i < b.length
          · have hw : IntKind.i64.wrap ((i : Int) + 1) = (i : Int) + 1 := wrap64 (by omega) (by simp only [MB] at hbl; omega)
            have hlt : ((i : Int) < (b.length : Int)) := by omega
            have hb : b[i]? = some b[i] := List.getElem?_eq_getElem hi
            have hsd := hsol.trans (solveL_drop (left := n.k.drop q) (e := e) hi)
            clear hsol
            have hwd := wL_drop hi
            have hlo := hrs'.2 b[i] (List.getElem_mem hi)
            generalize hbi : b[i] = l at *
            have hlcs : l.cs = [.int .i64 l.kind, .str l.atom.p, .sl (l.atom.a.map Tm.cs), .str l.op, .bool l.l.b, .str l.l.k, .bool l.l.v.b, .str l.l.v.s, .int .i64 l.l.v.n, .bool l.r.b, .str l.r.k, .bool l.r.v.b, .str l.r.v.s, .int .i64 l.r.v.n] := rfl
            by_cases hkd : l.kind = 1
            · rw [if_pos hkd] at hsd
              have hkb : (l.kind != 1) = false := by simp [hkd]
              by_cases hql : q < n.k.length
              · have hqlt : ¬ ((n.k.length : Int) ≤ (q : Int)) := by omega
                have hwq : IntKind.i64.wrap ((q : Int) + 1) = (q : Int) + 1 := wrap64 (by omega) (by simp only [MB] at hnl; omega)
                have hqb : n.k[q]? = some n.k[q] := List.getElem?_eq_getElem hql
                have hka := hkl'.2 n.k[q] (List.getElem_mem hql)
                have hkav := hks' n.k[q] (List.getElem_mem hql)
                rw [List.drop_eq_getElem_cons hql] at hsd
                simp only at hsd
                generalize hkq : n.k[q] = c at *
                have hkcs := Nd.cs_eq c
                by_cases hq : c.f.p = l.atom.p
                · have hqn : (c.f.p == l.atom.p) = true := by simp [hq]
                  simp only [if_pos hq] at hsd
                  have hmm := fun s2 => Q14_match l.atom c.f.a e (by simp only [MB] at hwb; omega) (by simp only [MB] at hka; omega) hkav heo (okLitS_iff.1 hlo).1 s2
                  cases hmk : matchE l.atom.a c.f.a e with
                  | none =>
                    rw [hmk] at hsd hmm
                    simp only at hsd
                    rw [hd, hsd]
                    repeat' (first
                      | refine WP.t ?_ | refine WP.k ?_ | refine WP.e ?_ | refine Qn ?_ | refine Qr ?_ | refine Qe ?_ | refine Bn ?_ | refine Br ?_ | refine Be ?_ | refine Bx (by decide) ?_
                      | (refine RS.nl ?_; refine hk _ _ ?_; clear hk k)
                      | ((first | refine RS.st fun A B hA hB => ?_ | refine RQ.st fun A B hA hB => ?_); simp [h1, h3, h5, h7, hg0, hg1, hg2, hnx, hnx0, hnx1, h8, h10, h11, hlt, hi, hb, hbi, hw, hlcs, hkb, hql, hqlt, hqb, hkq, hkcs, hqn, hmm, tupE, onW_t, onW_f, onV_s]; first | ((first | refine hA _ _ _ ?_ ?_ | refine hA _ _ _ ?_ (by first | exact .inl rfl | exact .inr (by decide)) ?_); (focus (simp [h1, h3, h5, h7, hg0, hg1, hg2, hnx, hnx0, hnx1, h8, h10, h11, hlt, hi, hb, hbi, hw, hlcs, hkb, hql, hqlt, hqb, hkq, hkcs, hqn, hmm, tupE] <;> omega)); clear hA hB A B) | (refine hB ?_; clear hA hB A B) | (refine onV_if ?_ ?_; (focus (first | omega | (refine ⟨?_, ?_⟩ <;> omega))); simp only [onV_s]; (first | refine hA _ _ _ ?_ ?_ | refine hA _ _ _ ?_ (by first | exact .inl rfl | exact .inr (by decide)) ?_); (focus (simp [h1, h3, h5, h7, hg0, hg1, hg2, hnx, hnx0, hnx1, h8, h10, h11, hlt, hi, hb, hbi, hw, hlcs, hkb, hql, hqlt, hqb, hkq, hkcs, hqn, hmm, tupE] <;> omega)); clear hA hB A B))
                      | (refine RQ.nl ?_; refine hk _ _ ?_; clear hk k)
                      | refine WP.sr fun k hk => ?_ | refine WP.r fun k hk => ?_
                      | refine WP.sd _ rfl fun k hk => ?_ | refine WP.d _ rfl fun k hk => ?_
                      | (refine WP.cc fun A B hA hB => ?_; simp [h1, h3, h5, h7, hg0, hg1, hg2, hnx, hnx0, hnx1, h8, h10, h11, hlt, hi, hb, hbi, hw, hlcs, hkb, hql, hqlt, hqb, hkq, hkcs, hqn, hmm, tupE, onB_t, onB_f]; first | (refine hA ?_; clear hA hB A B) | (refine hB ?_; clear hA hB A B) | (refine onB_if (fun h => hA ?_) (fun h => hB ?_) <;> clear hA hB A B))
                      | refine WP.q ?_ | refine WP.b ?_)
                    simp
                  | some e' =>
                    rw [hmk] at hsd hmm
                    simp only at hsd
                    have hel' := matchE_len hmk
                    repeat' (first
                      | refine WP.t ?_ | refine WP.k ?_ | refine WP.e ?_ | refine Qn ?_ | refine Qr ?_ | refine Qe ?_ | refine Bn ?_ | refine Br ?_ | refine Be ?_ | refine Bx (by decide) ?_
                      | (refine RS.nl ?_; refine hk _ _ ?_; clear hk k)
                      | ((first | refine RS.st fun A B hA hB => ?_ | refine RQ.st fun A B hA hB => ?_); simp [h1, h3, h5, h7, hg0, hg1, hg2, hnx, hnx0, hnx1, h8, h10, h11, hlt, hi, hb, hbi, hw, hlcs, hkb, hql, hqlt, hqb, hkq, hkcs, hqn, hmm, tupE, hwq, onW_t, onW_f, onV_s]; first | ((first | refine hA _ _ _ ?_ ?_ | refine hA _ _ _ ?_ (by first | exact .inl rfl | exact .inr (by decide)) ?_); (focus (simp [h1, h3, h5, h7, hg0, hg1, hg2, hnx, hnx0, hnx1, h8, h10, h11, hlt, hi, hb, hbi, hw, hlcs, hkb, hql, hqlt, hqb, hkq, hkcs, hqn, hmm, tupE, hwq] <;> omega)); clear hA hB A B) | (refine hB ?_; clear hA hB A B) | (refine onV_if ?_ ?_; (focus (first | omega | (refine ⟨?_, ?_⟩ <;> omega))); simp only [onV_s]; (first | refine hA _ _ _ ?_ ?_ | refine hA _ _ _ ?_ (by first | exact .inl rfl | exact .inr (by decide)) ?_); (focus (simp [h1, h3, h5, h7, hg0, hg1, hg2, hnx, hnx0, hnx1, h8, h10, h11, hlt, hi, hb, hbi, hw, hlcs, hkb, hql, hqlt, hqb, hkq, hkcs, hqn, hmm, tupE, hwq] <;> omega)); clear hA hB A B))
                      | (refine RQ.nl ?_; refine hk _ _ ?_; clear hk k)
                      | refine WP.sr fun k hk => ?_ | refine WP.r fun k hk => ?_
                      | refine WP.sd _ rfl fun k hk => ?_ | refine WP.d _ rfl fun k hk => ?_
                      | (refine WP.cc fun A B hA hB => ?_; simp [h1, h3, h5, h7, hg0, hg1, hg2, hnx, hnx0, hnx1, h8, h10, h11, hlt, hi, hb, hbi, hw, hlcs, hkb, hql, hqlt, hqb, hkq, hkcs, hqn, hmm, tupE, hwq, onB_t, onB_f]; first | (refine hA ?_; clear hA hB A B) | (refine hB ?_; clear hA hB A B) | (refine onB_if (fun h => hA ?_) (fun h => hB ?_) <;> clear hA hB A B))
                      | refine WP.q ?_ | refine WP.b ?_)
                    exact ⟨m - 1, by omega, i + 1, q + 1, e', by omega, by simp [h1], by simp [h3], by simp [h5], by simp [h7], hg0, hg1, hg2, hnx, by simp, by simp, by simp, by omega, by omega, matchE_ok heo hkav hmk, by rw [hsd]⟩
                · have hqn : (c.f.p == l.atom.p) = false := by simp [hq]
                  simp only [if_neg hq] at hsd
                  rw [hd, hsd]
                  repeat' (first
                    | refine WP.t ?_ | refine WP.k ?_ | refine WP.e ?_ | refine Qn ?_ | refine Qr ?_ | refine Qe ?_ | refine Bn ?_ | refine Br ?_ | refine Be ?_ | refine Bx (by decide) ?_
                    | (refine RS.nl ?_; refine hk _ _ ?_; clear hk k)
                    | ((first | refine RS.st fun A B hA hB => ?_ | refine RQ.st fun A B hA hB => ?_); simp [h1, h3, h5, h7, hg0, hg1, hg2, hnx, hnx0, hnx1, h8, h10, h11, hlt, hi, hb, hbi, hw, hlcs, hkb, hql, hqlt, hqb, hkq, hkcs, hqn, onW_t, onW_f, onV_s]; first | ((first | refine hA _ _ _ ?_ ?_ | refine hA _ _ _ ?_ (by first | exact .inl rfl | exact .inr (by decide)) ?_); (focus (simp [h1, h3, h5, h7, hg0, hg1, hg2, hnx, hnx0, hnx1, h8, h10, h11, hlt, hi, hb, hbi, hw, hlcs, hkb, hql, hqlt, hqb, hkq, hkcs, hqn] <;> omega)); clear hA hB A B) | (refine hB ?_; clear hA hB A B) | (refine onV_if ?_ ?_; (focus (first | omega | (refine ⟨?_, ?_⟩ <;> omega))); simp only [onV_s]; (first | refine hA _ _ _ ?_ ?_ | refine hA _ _ _ ?_ (by first | exact .inl rfl | exact .inr (by decide)) ?_); (focus (simp [h1, h3, h5, h7, hg0, hg1, hg2, hnx, hnx0, hnx1, h8, h10, h11, hlt, hi, hb, hbi, hw, hlcs, hkb, hql, hqlt, hqb, hkq, hkcs, hqn] <;> omega)); clear hA hB A B))
                    | (refine RQ.nl ?_; refine hk _ _ ?_; clear hk k)
                    | refine WP.sr fun k hk => ?_ | refine WP.r fun k hk => ?_
                    | refine WP.sd _ rfl fun k hk => ?_ | refine WP.d _ rfl fun k hk => ?_
                    | (refine WP.cc fun A B hA hB => ?_; simp [h1, h3, h5, h7, hg0, hg1, hg2, hnx, hnx0, hnx1, h8, h10, h11, hlt, hi, hb, hbi, hw, hlcs, hkb, hql, hqlt, hqb, hkq, hkcs, hqn, onB_t, onB_f]; first | (refine hA ?_; clear hA hB A B) | (refine hB ?_; clear hA hB A B) | (refine onB_if (fun h => hA ?_) (fun h => hB ?_) <;> clear hA hB A B))
                    | refine WP.q ?_ | refine WP.b ?_)
                  simp
              · have hqlt : ((n.k.length : Int) ≤ (q : Int)) := by omega
                rw [List.drop_eq_nil_of_le (by omega)] at hsd
                rw [hd, hsd]
                repeat' (first
                  | refine WP.t ?_ | refine WP.k ?_ | refine WP.e ?_ | refine Qn ?_ | refine Qr ?_ | refine Qe ?_ | refine Bn ?_ | refine Br ?_ | refine Be ?_ | refine Bx (by decide) ?_
                  | (refine RS.nl ?_; refine hk _ _ ?_; clear hk k)
                  | ((first | refine RS.st fun A B hA hB => ?_ | refine RQ.st fun A B hA hB => ?_); simp [h1, h3, h5, h7, hg0, hg1, hg2, hnx, hnx0, hnx1, h8, h10, h11, hlt, hi, hb, hbi, hw, hlcs, hkb, hqlt, onW_t, onW_f, onV_s]; first | ((first | refine hA _ _ _ ?_ ?_ | refine hA _ _ _ ?_ (by first | exact .inl rfl | exact .inr (by decide)) ?_); (focus (simp [h1, h3, h5, h7, hg0, hg1, hg2, hnx, hnx0, hnx1, h8, h10, h11, hlt, hi, hb, hbi, hw, hlcs, hkb, hqlt] <;> omega)); clear hA hB A B) | (refine hB ?_; clear hA hB A B) | (refine onV_if ?_ ?_; (focus (first | omega | (refine ⟨?_, ?_⟩ <;> omega))); simp only [onV_s]; (first | refine hA _ _ _ ?_ ?_ | refine hA _ _ _ ?_ (by first | exact .inl rfl | exact .inr (by decide)) ?_); (focus (simp [h1, h3, h5, h7, hg0, hg1, hg2, hnx, hnx0, hnx1, h8, h10, h11, hlt, hi, hb, hbi, hw, hlcs, hkb, hqlt] <;> omega)); clear hA hB A B))
                  | (refine RQ.nl ?_; refine hk _ _ ?_; clear hk k)
                  | refine WP.sr fun k hk => ?_ | refine WP.r fun k hk => ?_
                  | refine WP.sd _ rfl fun k hk => ?_ | refine WP.d _ rfl fun k hk => ?_
                  | (refine WP.cc fun A B hA hB => ?_; simp [h1, h3, h5, h7, hg0, hg1, hg2, hnx, hnx0, hnx1, h8, h10, h11, hlt, hi, hb, hbi, hw, hlcs, hkb, hqlt, onB_t, onB_f]; first | (refine hA ?_; clear hA hB A B) | (refine hB ?_; clear hA hB A B) | (refine onB_if (fun h => hA ?_) (fun h => hB ?_) <;> clear hA hB A B))
                  | refine WP.q ?_ | refine WP.b ?_)
                simp
            · rw [if_neg hkd] at hsd
              have hkb : (l.kind != 1) = true := by simp [hkd]
              repeat' (first
                | refine WP.t ?_ | refine WP.k ?_ | refine WP.e ?_ | refine Qn ?_ | refine Qr ?_ | refine Qe ?_ | refine Bn ?_ | refine Br ?_ | refine Be ?_ | refine Bx (by decide) ?_
                | (refine RS.nl ?_; refine hk _ _ ?_; clear hk k)
                | ((first | refine RS.st fun A B hA hB => ?_ | refine RQ.st fun A B hA hB => ?_); simp [h1, h3, h5, h7, hg0, hg1, hg2, hnx, hnx0, hnx1, h8, h10, h11, hlt, hi, hb, hbi, hw, hlcs, hkb, onW_t, onW_f, onV_s]; first | ((first | refine hA _ _ _ ?_ ?_ | refine hA _ _ _ ?_ (by first | exact .inl rfl | exact .inr (by decide)) ?_); (focus (simp [h1, h3, h5, h7, hg0, hg1, hg2, hnx, hnx0, hnx1, h8, h10, h11, hlt, hi, hb, hbi, hw, hlcs, hkb] <;> omega)); clear hA hB A B) | (refine hB ?_; clear hA hB A B) | (refine onV_if ?_ ?_; (focus (first | omega | (refine ⟨?_, ?_⟩ <;> omega))); simp only [onV_s]; (first | refine hA _ _ _ ?_ ?_ | refine hA _ _ _ ?_ (by first | exact .inl rfl | exact .inr (by decide)) ?_); (focus (simp [h1, h3, h5, h7, hg0, hg1, hg2, hnx, hnx0, hnx1, h8, h10, h11, hlt, hi, hb, hbi, hw, hlcs, hkb] <;> omega)); clear hA hB A B))
                | (refine RQ.nl ?_; refine hk _ _ ?_; clear hk k)
                | refine WP.sr fun k hk => ?_ | refine WP.r fun k hk => ?_
                | refine WP.sd _ rfl fun k hk => ?_ | refine WP.d _ rfl fun k hk => ?_
                | (refine WP.cc fun A B hA hB => ?_; simp [h1, h3, h5, h7, hg0, hg1, hg2, hnx, hnx0, hnx1, h8, h10, h11, hlt, hi, hb, hbi, hw, hlcs, hkb, onB_t, onB_f]; first | (refine hA ?_; clear hA hB A B) | (refine hB ?_; clear hA hB A B) | (refine onB_if (fun h => hA ?_) (fun h => hB ?_) <;> clear hA hB A B))
                | refine WP.q ?_ | refine WP.b ?_)
              exact ⟨m - 1, by omega, i + 1, q, e, by omega, by simp [h1], by simp [h3], by simp [h5], by simp [h7], hg0, hg1, hg2, hnx, by simp [h8], by simp [h10], by simp, by omega, by omega, heo, by rw [hsd]⟩
          · have hlt : ¬ ((i : Int) < (b.length : Int)) := by omega
            have hm2 : solveL b n.k e0 = some (e, n.k.drop q) := by
              rw [hsol, List.drop_eq_nil_of_le (by omega)]; rfl
            have helL : e.length < LIM := by simp only [MB, LIM] at *; omega
            rw [hm2] at hd
            simp only at hd
            have hQa := fun s2 => Q14_asks ⟨⟨hp, ha⟩, b⟩ fs e hok'.2 (by simp only [MB] at *; omega) hrs hfl hfs helL heo s2
            simp only [Rl.cs] at hQa
            repeat' (first
              | refine WP.t ?_ | refine WP.k ?_ | refine WP.e ?_ | refine Qn ?_ | refine Qr ?_ | refine Qe ?_ | refine Bn ?_ | refine Br ?_ | refine Be ?_ | refine Bx (by decide) ?_
              | (refine RS.nl ?_; refine hk _ _ ?_; clear hk k)
              | ((first | refine RS.st fun A B hA hB => ?_ | refine RQ.st fun A B hA hB => ?_); simp [h1, h3, h5, h7, hg0, hg1, hg2, hnx, hnx0, hnx1, h8, h10, h11, hlt, onW_t, onW_f, onV_s]; first | ((first | refine hA _ _ _ ?_ ?_ | refine hA _ _ _ ?_ (by first | exact .inl rfl | exact .inr (by decide)) ?_); (focus (simp [h1, h3, h5, h7, hg0, hg1, hg2, hnx, hnx0, hnx1, h8, h10, h11, hlt] <;> omega)); clear hA hB A B) | (refine hB ?_; clear hA hB A B) | (refine onV_if ?_ ?_; (focus (first | omega | (refine ⟨?_, ?_⟩ <;> omega))); simp only [onV_s]; (first | refine hA _ _ _ ?_ ?_ | refine hA _ _ _ ?_ (by first | exact .inl rfl | exact .inr (by decide)) ?_); (focus (simp [h1, h3, h5, h7, hg0, hg1, hg2, hnx, hnx0, hnx1, h8, h10, h11, hlt] <;> omega)); clear hA hB A B))
              | (refine RQ.nl ?_; refine hk _ _ ?_; clear hk k)
              | refine WP.sr fun k hk => ?_ | refine WP.r fun k hk => ?_
              | refine WP.sd _ rfl fun k hk => ?_ | refine WP.d _ rfl fun k hk => ?_
              | (refine WP.cc fun A B hA hB => ?_; simp [h1, h3, h5, h7, hg0, hg1, hg2, hnx, hnx0, hnx1, h8, h10, h11, hlt, onB_t, onB_f]; first | (refine hA ?_; clear hA hB A B) | (refine hB ?_; clear hA hB A B) | (refine onB_if (fun h => hA ?_) (fun h => hB ?_) <;> clear hA hB A B))
              | refine WP.q ?_ | refine WP.b ?_)
            clear hmi hi hlt h11 hsol hwb hm2
            refine WP_loop (fun m T s' => ∃ (i : Nat), m + i = b.length ∧ T.get 1 = .sl (fs.map Fc.cs) ∧ T.get 3 = .ptr s.nx 0 ∧ T.get 5 = .ptr (s.nx + 1) 0 ∧ T.get 7 = .ptr (s.nx + 1 + 1) 0 ∧
              s'.get s.nx = some (.var 25 [.sl (g.decls.map Dc.cs), .sl (g.rules.map Rl.cs)]) ∧ s'.get (s.nx + 1) = some (.var 34 [.str n.f.p, .sl (n.f.a.map V.cs), .int .i64 j, .sl (n.k.map Nd.cs)]) ∧ s'.get (s.nx + 1 + 1) = some (.var 40 [.str hp, .sl (ha.map Tm.cs), .sl (b.map Lit.cs)]) ∧ s.nx + 1 + 1 < s'.nx ∧
              T.get 8 = .sl (e.map Pr.cs) ∧ T.get 10 = .int .i64 q ∧ T.get 14 = .int .i64 i ∧ grE e b = grE e (b.drop i)) b.length
              ⟨0, by simp, by simp [h1], by simp [h3], by simp [h5], by simp [h7], hg0, hg1, hg2, hnx, by simp [h8], by simp [h10], by simp, by simp⟩ ?_
            clear hnx0 hnx1 hg0 hg1 hg2 hnx h1 h3 h5 h7 h8 h10
            rintro m2 T2 s2 ⟨i, hmi, h1, h3, h5, h7, hg0, hg1, hg2, hnx, h8, h10, h14, hgr⟩
            have hnx0 : s.nx < s2.nx := by omega
            have hnx1 : s.nx + 1 < s2.nx := by omega
            by_cases hi : i < b.length
            · have hw : IntKind.i64.wrap ((i : Int) + 1) = (i : Int) + 1 := wrap64 (by omega) (by simp only [MB] at hbl; omega)
              have hlt : ((i : Int) < (b.length : Int)) := by omega
              have hb : b[i]? = some b[i] := List.getElem?_eq_getElem hi
              have hgd := grE_drop (e := e) hi
              have hla := wL_mem (List.getElem_mem hi)
              generalize hbi : b[i] = l at *
              have hlcs : l.cs = [.int .i64 l.kind, .str l.atom.p, .sl (l.atom.a.map Tm.cs), .str l.op, .bool l.l.b, .str l.l.k, .bool l.l.v.b, .str l.l.v.s, .int .i64 l.l.v.n, .bool l.r.b, .str l.r.k, .bool l.r.v.b, .str l.r.v.s, .int .i64 l.r.v.n] := rfl
              cases hkb : (l.kind == 2) with
              | true =>
                rw [hkb] at hgd
                have hQg := fun s2 => Q14_ground l.atom e (by simp only [MB] at *; omega) helL s2
                cases hgl : groundE e l.atom.a with
                | none =>
                  rw [hgl] at hgd hQg
                  have hgf : grE e b = false := by rw [hgr, hgd]; rfl
                  rw [hd, hgf]
                  repeat' (first
                    | refine WP.t ?_ | refine WP.k ?_ | refine WP.e ?_ | refine Qn ?_ | refine Qr ?_ | refine Qe ?_ | refine Bn ?_ | refine Br ?_ | refine Be ?_ | refine Bx (by decide) ?_
                    | (refine RS.nl ?_; refine hk _ _ ?_; clear hk k)
                    | ((first | refine RS.st fun A B hA hB => ?_ | refine RQ.st fun A B hA hB => ?_); simp [h1, h3, h5, h7, hg0, hg1, hg2, hnx, hnx0, hnx1, h8, h10, h14, hlt, hi, hb, hbi, hw, hlcs, hkb, hQg, tupR, onW_t, onW_f, onV_s]; first | ((first | refine hA _ _ _ ?_ ?_ | refine hA _ _ _ ?_ (by first | exact .inl rfl | exact .inr (by decide)) ?_); (focus (simp [h1, h3, h5, h7, hg0, hg1, hg2, hnx, hnx0, hnx1, h8, h10, h14, hlt, hi, hb, hbi, hw, hlcs, hkb, hQg, tupR] <;> omega)); clear hA hB A B) | (refine hB ?_; clear hA hB A B) | (refine onV_if ?_ ?_; (focus (first | omega | (refine ⟨?_, ?_⟩ <;> omega))); simp only [onV_s]; (first | refine hA _ _ _ ?_ ?_ | refine hA _ _ _ ?_ (by first | exact .inl rfl | exact .inr (by decide)) ?_); (focus (simp [h1, h3, h5, h7, hg0, hg1, hg2, hnx, hnx0, hnx1, h8, h10, h14, hlt, hi, hb, hbi, hw, hlcs, hkb, hQg, tupR] <;> omega)); clear hA hB A B))
                    | (refine RQ.nl ?_; refine hk _ _ ?_; clear hk k)
                    | refine WP.sr fun k hk => ?_ | refine WP.r fun k hk => ?_
                    | refine WP.sd _ rfl fun k hk => ?_ | refine WP.d _ rfl fun k hk => ?_
                    | (refine WP.cc fun A B hA hB => ?_; simp [h1, h3, h5, h7, hg0, hg1, hg2, hnx, hnx0, hnx1, h8, h10, h14, hlt, hi, hb, hbi, hw, hlcs, hkb, hQg, tupR, onB_t, onB_f]; first | (refine hA ?_; clear hA hB A B) | (refine hB ?_; clear hA hB A B) | (refine onB_if (fun h => hA ?_) (fun h => hB ?_) <;> clear hA hB A B))
                    | refine WP.q ?_ | refine WP.b ?_)
                  simp
                | some row =>
                  rw [hgl] at hgd hQg
                  repeat' (first
                    | refine WP.t ?_ | refine WP.k ?_ | refine WP.e ?_ | refine Qn ?_ | refine Qr ?_ | refine Qe ?_ | refine Bn ?_ | refine Br ?_ | refine Be ?_ | refine Bx (by decide) ?_
                    | (refine RS.nl ?_; refine hk _ _ ?_; clear hk k)
                    | ((first | refine RS.st fun A B hA hB => ?_ | refine RQ.st fun A B hA hB => ?_); simp [h1, h3, h5, h7, hg0, hg1, hg2, hnx, hnx0, hnx1, h8, h10, h14, hlt, hi, hb, hbi, hw, hlcs, hkb, hQg, tupR, onW_t, onW_f, onV_s]; first | ((first | refine hA _ _ _ ?_ ?_ | refine hA _ _ _ ?_ (by first | exact .inl rfl | exact .inr (by decide)) ?_); (focus (simp [h1, h3, h5, h7, hg0, hg1, hg2, hnx, hnx0, hnx1, h8, h10, h14, hlt, hi, hb, hbi, hw, hlcs, hkb, hQg, tupR] <;> omega)); clear hA hB A B) | (refine hB ?_; clear hA hB A B) | (refine onV_if ?_ ?_; (focus (first | omega | (refine ⟨?_, ?_⟩ <;> omega))); simp only [onV_s]; (first | refine hA _ _ _ ?_ ?_ | refine hA _ _ _ ?_ (by first | exact .inl rfl | exact .inr (by decide)) ?_); (focus (simp [h1, h3, h5, h7, hg0, hg1, hg2, hnx, hnx0, hnx1, h8, h10, h14, hlt, hi, hb, hbi, hw, hlcs, hkb, hQg, tupR] <;> omega)); clear hA hB A B))
                    | (refine RQ.nl ?_; refine hk _ _ ?_; clear hk k)
                    | refine WP.sr fun k hk => ?_ | refine WP.r fun k hk => ?_
                    | refine WP.sd _ rfl fun k hk => ?_ | refine WP.d _ rfl fun k hk => ?_
                    | (refine WP.cc fun A B hA hB => ?_; simp [h1, h3, h5, h7, hg0, hg1, hg2, hnx, hnx0, hnx1, h8, h10, h14, hlt, hi, hb, hbi, hw, hlcs, hkb, hQg, tupR, onB_t, onB_f]; first | (refine hA ?_; clear hA hB A B) | (refine hB ?_; clear hA hB A B) | (refine onB_if (fun h => hA ?_) (fun h => hB ?_) <;> clear hA hB A B))
                    | refine WP.q ?_ | refine WP.b ?_)
                  exact ⟨m2 - 1, by omega, i + 1, by omega, by simp [h1], by simp [h3], by simp [h5], by simp [h7], hg0, hg1, hg2, hnx, by simp [h8], by simp [h10], by simp, by rw [hgr, hgd]; rfl⟩
              | false =>
                rw [hkb] at hgd
                repeat' (first
                  | refine WP.t ?_ | refine WP.k ?_ | refine WP.e ?_ | refine Qn ?_ | refine Qr ?_ | refine Qe ?_ | refine Bn ?_ | refine Br ?_ | refine Be ?_ | refine Bx (by decide) ?_
                  | (refine RS.nl ?_; refine hk _ _ ?_; clear hk k)
                  | ((first | refine RS.st fun A B hA hB => ?_ | refine RQ.st fun A B hA hB => ?_); simp [h1, h3, h5, h7, hg0, hg1, hg2, hnx, hnx0, hnx1, h8, h10, h14, hlt, hi, hb, hbi, hw, hlcs, hkb, onW_t, onW_f, onV_s]; first | ((first | refine hA _ _ _ ?_ ?_ | refine hA _ _ _ ?_ (by first | exact .inl rfl | exact .inr (by decide)) ?_); (focus (simp [h1, h3, h5, h7, hg0, hg1, hg2, hnx, hnx0, hnx1, h8, h10, h14, hlt, hi, hb, hbi, hw, hlcs, hkb] <;> omega)); clear hA hB A B) | (refine hB ?_; clear hA hB A B) | (refine onV_if ?_ ?_; (focus (first | omega | (refine ⟨?_, ?_⟩ <;> omega))); simp only [onV_s]; (first | refine hA _ _ _ ?_ ?_ | refine hA _ _ _ ?_ (by first | exact .inl rfl | exact .inr (by decide)) ?_); (focus (simp [h1, h3, h5, h7, hg0, hg1, hg2, hnx, hnx0, hnx1, h8, h10, h14, hlt, hi, hb, hbi, hw, hlcs, hkb] <;> omega)); clear hA hB A B))
                  | (refine RQ.nl ?_; refine hk _ _ ?_; clear hk k)
                  | refine WP.sr fun k hk => ?_ | refine WP.r fun k hk => ?_
                  | refine WP.sd _ rfl fun k hk => ?_ | refine WP.d _ rfl fun k hk => ?_
                  | (refine WP.cc fun A B hA hB => ?_; simp [h1, h3, h5, h7, hg0, hg1, hg2, hnx, hnx0, hnx1, h8, h10, h14, hlt, hi, hb, hbi, hw, hlcs, hkb, onB_t, onB_f]; first | (refine hA ?_; clear hA hB A B) | (refine hB ?_; clear hA hB A B) | (refine onB_if (fun h => hA ?_) (fun h => hB ?_) <;> clear hA hB A B))
                  | refine WP.q ?_ | refine WP.b ?_)
                exact ⟨m2 - 1, by omega, i + 1, by omega, by simp [h1], by simp [h3], by simp [h5], by simp [h7], hg0, hg1, hg2, hnx, by simp [h8], by simp [h10], by simp, by rw [hgr, hgd]; rfl⟩
            · have hlt : ¬ ((i : Int) < (b.length : Int)) := by omega
              have hgt : grE e b = true := by
                rw [hgr, List.drop_eq_nil_of_le (by omega)]; rfl
              rw [hgt] at hd
              by_cases hqe : q = n.k.length
              · have hqb : ((q : Int) == (n.k.length : Int)) = true := by simp [hqe]
                have hqd : decide ((n.k.drop q).length = 0) = true := by simp; omega
                rw [hqd] at hd
                rw [hd]
                repeat' (first
                  | refine WP.t ?_ | refine WP.k ?_ | refine WP.e ?_ | refine Qn ?_ | refine Qr ?_ | refine Qe ?_ | refine Bn ?_ | refine Br ?_ | refine Be ?_ | refine Bx (by decide) ?_
                  | (refine RS.nl ?_; refine hk _ _ ?_; clear hk k)
                  | ((first | refine RS.st fun A B hA hB => ?_ | refine RQ.st fun A B hA hB => ?_); simp [h1, h3, h5, h7, hg0, hg1, hg2, hnx, hnx0, hnx1, h8, h10, h14, hlt, hqb, hQa, onW_t, onW_f, onV_s]; first | ((first | refine hA _ _ _ ?_ ?_ | refine hA _ _ _ ?_ (by first | exact .inl rfl | exact .inr (by decide)) ?_); (focus (simp [h1, h3, h5, h7, hg0, hg1, hg2, hnx, hnx0, hnx1, h8, h10, h14, hlt, hqb, hQa] <;> omega)); clear hA hB A B) | (refine hB ?_; clear hA hB A B) | (refine onV_if ?_ ?_; (focus (first | omega | (refine ⟨?_, ?_⟩ <;> omega))); simp only [onV_s]; (first | refine hA _ _ _ ?_ ?_ | refine hA _ _ _ ?_ (by first | exact .inl rfl | exact .inr (by decide)) ?_); (focus (simp [h1, h3, h5, h7, hg0, hg1, hg2, hnx, hnx0, hnx1, h8, h10, h14, hlt, hqb, hQa] <;> omega)); clear hA hB A B))
                  | (refine RQ.nl ?_; refine hk _ _ ?_; clear hk k)
                  | refine WP.sr fun k hk => ?_ | refine WP.r fun k hk => ?_
                  | refine WP.sd _ rfl fun k hk => ?_ | refine WP.d _ rfl fun k hk => ?_
                  | (refine WP.cc fun A B hA hB => ?_; simp [h1, h3, h5, h7, hg0, hg1, hg2, hnx, hnx0, hnx1, h8, h10, h14, hlt, hqb, hQa, onB_t, onB_f]; first | (refine hA ?_; clear hA hB A B) | (refine hB ?_; clear hA hB A B) | (refine onB_if (fun h => hA ?_) (fun h => hB ?_) <;> clear hA hB A B))
                  | refine WP.q ?_ | refine WP.b ?_)
                simp
              · have hqb : ((q : Int) == (n.k.length : Int)) = false := by rw [beq_eq_false_iff_ne]; omega
                have hqd : decide ((n.k.drop q).length = 0) = false := by simp; omega
                rw [hqd] at hd
                rw [hd]
                repeat' (first
                  | refine WP.t ?_ | refine WP.k ?_ | refine WP.e ?_ | refine Qn ?_ | refine Qr ?_ | refine Qe ?_ | refine Bn ?_ | refine Br ?_ | refine Be ?_ | refine Bx (by decide) ?_
                  | (refine RS.nl ?_; refine hk _ _ ?_; clear hk k)
                  | ((first | refine RS.st fun A B hA hB => ?_ | refine RQ.st fun A B hA hB => ?_); simp [h1, h3, h5, h7, hg0, hg1, hg2, hnx, hnx0, hnx1, h8, h10, h14, hlt, hqb, onW_t, onW_f, onV_s]; first | ((first | refine hA _ _ _ ?_ ?_ | refine hA _ _ _ ?_ (by first | exact .inl rfl | exact .inr (by decide)) ?_); (focus (simp [h1, h3, h5, h7, hg0, hg1, hg2, hnx, hnx0, hnx1, h8, h10, h14, hlt, hqb] <;> omega)); clear hA hB A B) | (refine hB ?_; clear hA hB A B) | (refine onV_if ?_ ?_; (focus (first | omega | (refine ⟨?_, ?_⟩ <;> omega))); simp only [onV_s]; (first | refine hA _ _ _ ?_ ?_ | refine hA _ _ _ ?_ (by first | exact .inl rfl | exact .inr (by decide)) ?_); (focus (simp [h1, h3, h5, h7, hg0, hg1, hg2, hnx, hnx0, hnx1, h8, h10, h14, hlt, hqb] <;> omega)); clear hA hB A B))
                  | (refine RQ.nl ?_; refine hk _ _ ?_; clear hk k)
                  | refine WP.sr fun k hk => ?_ | refine WP.r fun k hk => ?_
                  | refine WP.sd _ rfl fun k hk => ?_ | refine WP.d _ rfl fun k hk => ?_
                  | (refine WP.cc fun A B hA hB => ?_; simp [h1, h3, h5, h7, hg0, hg1, hg2, hnx, hnx0, hnx1, h8, h10, h14, hlt, hqb, onB_t, onB_f]; first | (refine hA ?_; clear hA hB A B) | (refine hB ?_; clear hA hB A B) | (refine onB_if (fun h => hA ?_) (fun h => hB ?_) <;> clear hA hB A B))
                  | refine WP.q ?_ | refine WP.b ?_)
                simp
        · have hpb : (hp == n.f.p) = false := by simp [hpp]
          rw [if_neg hpp] at hd
          rw [hd]
          repeat' (first
            | refine WP.t ?_ | refine WP.k ?_ | refine WP.e ?_ | refine Qn ?_ | refine Qr ?_ | refine Qe ?_ | refine Bn ?_ | refine Br ?_ | refine Be ?_ | refine Bx (by decide) ?_
            | (refine RS.nl ?_; refine hk _ _ ?_; clear hk k)
            | ((first | refine RS.st fun A B hA hB => ?_ | refine RQ.st fun A B hA hB => ?_); simp [hcs, hgcs, hneg', hge, hjl, hr, hjr, hm0, tupE, Rl.cs, hpb, onW_t, onW_f, onV_s]; first | ((first | refine hA _ _ _ ?_ ?_ | refine hA _ _ _ ?_ (by first | exact .inl rfl | exact .inr (by decide)) ?_); (focus (simp [hcs, hgcs, hneg', hge, hjl, hr, hjr, hm0, tupE, Rl.cs, hpb] <;> omega)); clear hA hB A B) | (refine hB ?_; clear hA hB A B) | (refine onV_if ?_ ?_; (focus (first | omega | (refine ⟨?_, ?_⟩ <;> omega))); simp only [onV_s]; (first | refine hA _ _ _ ?_ ?_ | refine hA _ _ _ ?_ (by first | exact .inl rfl | exact .inr (by decide)) ?_); (focus (simp [hcs, hgcs, hneg', hge, hjl, hr, hjr, hm0, tupE, Rl.cs, hpb] <;> omega)); clear hA hB A B))
            | (refine RQ.nl ?_; refine hk _ _ ?_; clear hk k)
            | refine WP.sr fun k hk => ?_ | refine WP.r fun k hk => ?_
            | refine WP.sd _ rfl fun k hk => ?_ | refine WP.d _ rfl fun k hk => ?_
            | (refine WP.cc fun A B hA hB => ?_; simp [hcs, hgcs, hneg', hge, hjl, hr, hjr, hm0, tupE, Rl.cs, hpb, onB_t, onB_f]; first | (refine hA ?_; clear hA hB A B) | (refine hB ?_; clear hA hB A B) | (refine onB_if (fun h => hA ?_) (fun h => hB ?_) <;> clear hA hB A B))
            | refine WP.q ?_ | refine WP.b ?_)
          simp
end
end Go.Am
