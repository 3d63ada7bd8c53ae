/- Part of the proof: abstract values over the given model of Go (R10, R11, R12). Conditions: none of its own; see the statement in the seat's Rows text. -/
import Derived.Test.YtkhfjjgcafkihaaGreatAmRc
import Derived.Test.YtkhfjjgcafkihaaGreatAmUe
import Derived.Test.YtkhfjjgcafkihaaGreatAmNb
set_option linter.unusedSimpArgs false
set_option linter.unusedVariables false
set_option linter.unusedSectionVars false
namespace Go.Am
open Go.Proofs
mutual
def okTS : Nd → Bool
  | .mk f _ k => okFcS f && okTSL k
def okTSL : List Nd → Bool
  | [] => true
  | n :: l => okTS n && okTSL l
end
theorem okTSL_eq (l : List Nd) : okTSL l = l.all okTS := by
  induction l with
  | nil => simp [okTSL]
  | cons n l ih => simp [okTSL, ih]
theorem okTS_iff {n : Nd} : okTS n = true ↔ okFcS n.f = true ∧ ∀ k ∈ n.k, okTS k = true := by
  obtain ⟨f, r, k⟩ := n
  simp [okTS, okTSL_eq, Nd.f, Nd.k]
theorem okTS_v {n : Nd} (h : okTS n = true) : ∀ v ∈ n.f.a, v.s.length < LIM := (okR_iff.1 (okFcS_iff.1 (okTS_iff.1 h).1).2).2
theorem okTS_okKS {n : Nd} (h : okTS n = true) : okKS n.k = true := okKS_iff.2 fun k hk => okTS_v ((okTS_iff.1 h).2 k hk)
open Classical in
noncomputable def gPrR (N : Nat) (xs : List AV) (s : St) : Option (AV × St × List Nat) :=
  match xs with
  | [.agg a, .sl b, .agg c, x4] => match cPg.un a, unL cFc b, cNd.un c, ardF s x4 with
    | some g, some fs, some k, some ab => if (SizeOf.sizeOf k < N ∧ okPg g = true ∧ okFs fs = true ∧ okT k = true ∧ okFs ab = true ∧ ab.length + deepE k < MB) ∧ okPgS g = true ∧ okFsS fs = true ∧ okTS k = true ∧ okFsS ab = true then some (.bool (provesE g fs k ab), s, []) else none
    | _, _, _, _ => none
  | _ => none
section
variable {K : Nat} {gw : World} {s : St}
attribute [local simp] awanted xop zOf cz zrow aop ev T0 Slots.put Slots.set Slots.get awr WOk AV.may ofConst abinop aint isConst St.get_push St.get_put St.live AV.fit AV.cells AV.one fieldOf afieldAddr aload ofCells astore splice May eqres env_ti FinP FinZ FinW ares aresL ares1 Fns.addP Fns.add Fns.a0 Fns.a1 Fns.a2 Fns.a3 Fns.a4 abuiltin alenOk alen aindex elemOfT elemId abuildSlice afill chunks ard aappend isSS AV.isStr aminmax placesOf abuild afield aidx isStrD isStrDesc astrop aslice asliceOk abound arange anext aextract aunop aeq AV.ck avseq aveq aconv aconvert onB_t onB_f List.range_succ ti0 ti1 ti2 ti3 ti4 ti5 ti6 ti7 ti8 ti9 ti10 ti11 ti12 ti13 ti14 ti15 ti16 ti17 ti18 ti19 ti20 ti21 ti22 ti23 ti24 ti25 ti26 ti27 ti28 ti29 ti30 ti31 ti32 ti33 ti34 ti35 ti36 ti37 ti38 ti39 ti40 ti41 ti42 ti43 ti44 ti45 ti46 ti47 ti48 ti49 ti50 ti51 ti52 ti53 ti54 ti55 ti56 ti57 ti58 ti59 ti60 ti61 ti62 ti63 ti64 ti65 ti66 ti67 ti68 ti69 ti70 ti71 ti72 ti73 ti74 ti75 ti76 ti77 ti78 ti79 ti80 ti81 ti82 ti83 ti84 ti85 ti86 ti87 ti88 ti89 ti90 ti91 ti92 ti93 ti94 ti95 ti96 ti97 ti98 ti99 ti100 ti101 ti102 ti103 ti104 ti105 ti106 ti107 ti108 ti109 ti110 ti111 ti112 ti113 ti114 ti115 ti116 ti117 ti118 ti119 ti120 ti121 ti122 ti123 ti124 ti125 ti126 ti127 ti128 ti129 ti130 ti131 ti132 ti133 ti134 ti135 ti136 ti137 ti138 ti139 ti140 ti141 ti142 ti143 ti144 ti145 ti146 ti147 ti148 ti149 ti150 ti151 ti152 ti153 ti154 ti155 ti156 ti157 ti158 ti159 ti160 ti161 ti162 ti163 ti164 ti165 ti166 ti167 ti168 ti169 ti170 ti171 ti172 ti173 ti174 ti175 ti176 ti177 ti178 ti179 ti180 ti181 ti182 ti183 ti184 ti185 ti186 ti187 ti188 ti189 ti190 ti191 ti192
def PrIHR (K : Nat) (gw : World) (N : Nat) : Prop := ∀ (g : Pg) (fs : List Fc) (k : Nd) (ab : List Fc) (s : St), SizeOf.sizeOf k < N → okPg g = true → okFs fs = true → okT k = true → okFs ab = true → ab.length + deepE k < MB → okPgS g = true → okFsS fs = true → okTS k = true → okFsS ab = true →
  FT (env K gw) NoW 27 [.agg g.cs, .sl (fs.map Fc.cs), .agg k.cs, .sl (ab.map Fc.cs)] s (.bool (provesE g fs k ab)) s
theorem noWR : (fun id => id ∈ ([] : List Nat)) = NoW := by funext id; simp
theorem gPrR_ok {N : Nat} (ih : PrIHR K gw N) (xs : List AV) (s : St) (r : AV) (s' : St) (l : List Nat) (h : gPrR N xs s = some (r, s', l)) : FT (env K gw) (fun id => id ∈ l) 27 xs s r s' := by
  unfold gPrR at h
  split at h
  · rename_i a b c x4
    split at h
    · rename_i g fs k ab h1 h2 h3 h4
      split at h
      · rename_i hc
        obtain ⟨⟨hc1, hc2, hc3, hc4, hc5, hc6⟩, hc7, hc8, hc9, hc10⟩ := hc
        cases h
        rw [noWR, cPg.cs_un _ _ h1, unL_eq cFc _ _ h2, cNd.cs_un _ _ h3]
        unfold ardF at h4
        split at h4
        · rw [unL_eq cFc _ _ h4]
          exact ih g fs k ab s hc1 hc2 hc3 hc4 hc5 hc6 hc7 hc8 hc9 hc10
        · cases h4
          refine FT.nrm ?_
          have e1 : nrm (.agg (cPg.cs g)) = .agg g.cs := by simp [nrm, nrm0, cPg, Pg.cs]
          have e2 : nrm (.agg (cNd.cs k)) = .agg k.cs := by simp [nrm, nrm0, cNd, Nd.cs_eq]
          simp only [List.map_cons, List.map_nil, e1, e2]
          exact ih g fs k [] s hc1 hc2 hc3 hc4 hc5 hc6 hc7 hc8 hc9 hc10
        · split at h4
          · rename_i hrow
            split at h4
            · rename_i hm
              subst hm
              have := unL_eq cFc _ _ h4
              subst this
              refine FT.viewAt (ys := [.agg (cPg.cs g), .sl (fs.map cFc.cs), .agg (cNd.cs k), .sl (ab.map cFc.cs)]) hrow (fun μ μ' s s' w w' v h => by cases h; exact .bool _) rfl (fun i x y hx hy => ?_) (ih g fs k ab _ hc1 hc2 hc3 hc4 hc5 hc6 hc7 hc8 hc9 hc10)
              match i, hx, hy with
              | 0, hx, hy => simp at hx hy; exact .inl (hy.symm.trans hx)
              | 1, hx, hy => simp at hx hy; exact .inl (hy.symm.trans hx)
              | 2, hx, hy => simp at hx hy; exact .inl (hy.symm.trans hx)
              | 3, hx, hy => simp at hx hy; exact .inr ⟨by rw [← hx]; simp, hy.symm⟩
              | n + 4, hx, hy => simp at hx
            · cases h4
          · cases h4
        · cases h4
      · cases h
    · cases h
  · cases h
noncomputable def Q15 : Fns := Q14.addP 51 fun xs => match xs with
  | [.agg a, .sl b, .agg c] => match cPg.un a, unL cFc b, cNd.un c with
    | some g, some fs, some n => if okPg g = true ∧ okPgS g = true ∧ fs.length < MB ∧ okFsS fs = true ∧ n.f.a.length < MB ∧ (n.f.a.all fun v => decide (v.s.length < LIM)) = true ∧ okK n.k = true ∧ okKS n.k = true then some (.bool (standsE g fs n)) else none
    | _, _, _ => none
  | _ => none
theorem Q15_ok : FOk (env K gw) Q15 := by
  refine Q14_ok.addP fun xs s r h => ?_
  split at h
  · split at h
    · rename_i h1 h2 h3
      split at h
      · rename_i hl
        obtain ⟨c1, c2, c3, c4, c5, c6, c7, c8⟩ := hl
        cases h
        rw [cPg.cs_un _ _ h1, unL_eq cFc _ _ h2, cNd.cs_un _ _ h3]
        exact ft_RStands _ _ _ c1 c2 c3 c4 c5 (by simpa using c6) c7 c8
      · cases h
    · cases h
  · cases h
noncomputable def QP (N : Nat) : Fns := Q15.add 27 (gPrR N)
theorem QP_ok {N : Nat} (ih : PrIHR K gw N) : FOk (env K gw) (QP N) := Q15_ok.add (gPrR_ok ih)
theorem QP_stands {N : Nat} (g : Pg) (fs : List Fc) (n : Nd) (h1 : okPg g = true) (h2 : okPgS g = true) (h3 : fs.length < MB) (h4 : okFsS fs = true) (h5 : n.f.a.length < MB) (h6 : ∀ v ∈ n.f.a, v.s.length < LIM) (h7 : okK n.k = true) (h8 : okKS n.k = true) (s2 : St) : QP N 51 [.agg g.cs, .sl (fs.map Fc.cs), .agg n.cs] s2 = some (.bool (standsE g fs n), s2, []) := by
  have u1 : cPg.un g.cs = some g := cPg.un_cs g
  have u2 : cNd.un n.cs = some n := cNd.un_cs n
  have u3 := unL_Fc fs
  simp only [MB] at h3 h5
  simp [QP, Q15, Fns.addP, Fns.add, u1, u2, u3, h1, h2, h3, h4, h5, h7, h8]
  exact h6
theorem QP_cmp {N : Nat} (f g : Fc) (hf : okFcS f = true) (hg : okFcS g = true) (s2 : St) : QP N 50 [.agg [.str f.p, .sl (f.a.map V.cs)], .agg [.str g.p, .sl (g.a.map V.cs)]] s2 = some (.int .i64 (cmpF f g), s2, []) := by
  have := Q7_cmpF f g hf hg s2
  simp only [Fc.cs] at this
  rw [← this]
  simp [QP, Q15, Q14, Q13, Q12, Q11, Q10, Q9, Q8, Fns.addN, nrm, nrm0]
theorem QP_row {N : Nat} (g : Pg) (fs : List Fc) (k : Nd) (ab : List Fc) (h1 : SizeOf.sizeOf k < N) (h2 : okPg g = true) (h3 : okFs fs = true) (h4 : okT k = true) (h5 : okFs ab = true) (h6 : ab.length + deepE k < MB) (h7 : okPgS g = true) (h8 : okFsS fs = true) (h9 : okTS k = true) (h10 : okFsS ab = true) (s2 : St) (id m : Nat) (hm : m = ab.length) (hr : s2.get id = some (.row 2 (true, 29) (ab.map Fc.cs))) :
    QP N 27 [.agg g.cs, .sl (fs.map Fc.cs), .agg k.cs, .ls id 0 m] s2 = some (.bool (provesE g fs k ab), s2, []) := by
  have u1 : cPg.un g.cs = some g := cPg.un_cs g
  have u2 : cNd.un k.cs = some k := cNd.un_cs k
  have u3 := unL_Fc fs
  have u4 := unL_Fc ab
  simp [QP, Fns.add, gPrR, u1, u2, u3, ardF, hr, hm, u4, h1, h2, h3, h4, h5, h6, h7, h8, h9, h10]
theorem QP_nil {N : Nat} (g : Pg) (fs : List Fc) (k : Nd) (h1 : SizeOf.sizeOf k < N) (h2 : okPg g = true) (h3 : okFs fs = true) (h4 : okT k = true) (h6 : deepE k < MB) (h7 : okPgS g = true) (h8 : okFsS fs = true) (h9 : okTS k = true) (s2 : St) :
    QP N 27 [.agg g.cs, .sl (fs.map Fc.cs), .agg k.cs, .nsl] s2 = some (.bool (provesE g fs k []), s2, []) := by
  have u1 : cPg.un g.cs = some g := cPg.un_cs g
  have u2 : cNd.un k.cs = some k := cNd.un_cs k
  have u3 := unL_Fc fs
  have h5 : okFs [] = true := rfl
  have h10 : okFsS [] = true := rfl
  simp only [MB] at h6
  simp [QP, Fns.add, gPrR, u1, u2, u3, ardF, h1, h2, h3, h4, h5, h6, h7, h8, h9, h10]
end
end Go.Am
namespace Go.Am
open Go.Proofs
theorem any_drop {α : Type} {p : α → Bool} {l : List α} {i : Nat} (h : i < l.length) : (l.drop i).any p = (p l[i] || (l.drop (i + 1)).any p) := by
  rw [List.drop_eq_getElem_cons h]; rfl
theorem all_drop {α : Type} {p : α → Bool} {l : List α} {i : Nat} (h : i < l.length) : (l.drop i).all p = (p l[i] && (l.drop (i + 1)).all p) := by
  rw [List.drop_eq_getElem_cons h]; rfl
theorem big40 {n : Nat} (h : n ≤ 268435460) : n * 40 ≤ 140737488355328 := Nat.le_trans (Nat.mul_le_mul_right 40 h) (by decide)
section
variable {K : Nat} {gw : World} {s : St}
attribute [local simp] awanted xop zOf cz zrow aop ev T0 Slots.put Slots.set Slots.get awr WOk AV.may ofConst abinop aint isConst St.get_push St.get_put St.live AV.fit AV.cells AV.one fieldOf afieldAddr aload ofCells astore splice May eqres env_ti FinP FinZ FinW ares aresL ares1 Fns.addP Fns.add Fns.a0 Fns.a1 Fns.a2 Fns.a3 Fns.a4 abuiltin alenOk alen aindex elemOfT elemId abuildSlice afill chunks ard aappend isSS AV.isStr aminmax placesOf abuild afield aidx isStrD isStrDesc astrop aslice asliceOk abound arange anext aextract aunop aeq AV.ck avseq aveq aconv aconvert onB_t onB_f List.range_succ ti0 ti1 ti2 ti3 ti4 ti5 ti6 ti7 ti8 ti9 ti10 ti11 ti12 ti13 ti14 ti15 ti16 ti17 ti18 ti19 ti20 ti21 ti22 ti23 ti24 ti25 ti26 ti27 ti28 ti29 ti30 ti31 ti32 ti33 ti34 ti35 ti36 ti37 ti38 ti39 ti40 ti41 ti42 ti43 ti44 ti45 ti46 ti47 ti48 ti49 ti50 ti51 ti52 ti53 ti54 ti55 ti56 ti57 ti58 ti59 ti60 ti61 ti62 ti63 ti64 ti65 ti66 ti67 ti68 ti69 ti70 ti71 ti72 ti73 ti74 ti75 ti76 ti77 ti78 ti79 ti80 ti81 ti82 ti83 ti84 ti85 ti86 ti87 ti88 ti89 ti90 ti91 ti92 ti93 ti94 ti95 ti96 ti97 ti98 ti99 ti100 ti101 ti102 ti103 ti104 ti105 ti106 ti107 ti108 ti109 ti110 ti111 ti112 ti113 ti114 ti115 ti116 ti117 ti118 ti119 ti120 ti121 ti122 ti123 ti124 ti125 ti126 ti127 ti128 ti129 ti130 ti131 ti132 ti133 ti134 ti135 ti136 ti137 ti138 ti139 ti140 ti141 ti142 ti143 ti144 ti145 ti146 ti147 ti148 ti149 ti150 ti151 ti152 ti153 ti154 ti155 ti156 ti157 ti158 ti159 ti160 ti161 ti162 ti163 ti164 ti165 ti166 ti167 ti168 ti169 ti170 ti171 ti172 ti173 ti174 ti175 ti176 ti177 ti178 ti179 ti180 ti181 ti182 ti183 ti184 ti185 ti186 ti187 ti188 ti189 ti190 ti191 ti192
set_option maxRecDepth 20000 in
set_option maxHeartbeats 2000000 in
theorem ft_RProves {N : Nat} (ih : PrIHR K gw N) (g : Pg) (fs : List Fc) (n : Nd) (ab : List Fc) (hN : ∀ k ∈ n.k, SizeOf.sizeOf k < N) (hg : okPg g = true) (hfs : okFs fs = true) (hn : okT n = true) (hab : okFs ab = true) (hd : ab.length + deepE n < MB)
    (hgs : okPgS g = true) (hfsS : okFsS fs = true) (hnS : okTS n = true) (habS : okFsS ab = true) :
    FT (env K gw) NoW 27 [.agg g.cs, .sl (fs.map Fc.cs), .agg n.cs, .sl (ab.map Fc.cs)] s (.bool (provesE g fs n ab)) s := by
  have hn' := okT_iff.1 hn
  have hnS' := okTS_iff.1 hnS
  have hab' := okFs_iff.1 hab
  have habS' := okFsS_iff.1 habS
  rw [deepE_eq] at hd
  have hcs := Nd.cs_eq n
  have hgcs : g.cs = [.sl (g.decls.map Dc.cs), .sl (g.rules.map Rl.cs)] := rfl
  have hpe := provesE_eq g fs n ab
  have hst := fun s2 => QP_stands (N := N) g fs n hg hgs (okFs_iff.1 hfs).1 hfsS hn'.1 (okTS_v hnS) (okT_okK hn) (okTS_okKS hnS) s2
  rw [hcs, hgcs] at hst
  refine FT.pure (fn := Tryz.f27) (QP_ok ih) mixed Tryz.func27 (by kernel_rfl) (by rfl) rfl rfl (by simp) rfl fun μ w => ?_
  repeat' (first
    | refine WP.t ?_ | refine WP.k ?_ | refine WP.e ?_ | refine Qn ?_ | refine Qr ?_ | refine Qe ?_ | refine Bn ?_ | refine Br ?_ | refine Be ?_ | refine Bx (by decide) ?_
    | (refine RS.nl ?_; refine hk _ _ ?_; clear hk k)
    | ((first | refine RS.st fun A B hA hB => ?_ | refine RQ.st fun A B hA hB => ?_); simp [hcs, hgcs, onW_t, onW_f, onV_s]; first | ((first | refine hA _ _ _ ?_ ?_ | refine hA _ _ _ ?_ (by first | exact .inl rfl | exact .inr (by decide)) ?_); (focus (simp [hcs, hgcs] <;> omega)); clear hA hB A B) | (refine hB ?_; clear hA hB A B) | (refine onV_if ?_ ?_; (focus (first | omega | (refine ⟨?_, ?_⟩ <;> omega))); simp only [onV_s]; (first | refine hA _ _ _ ?_ ?_ | refine hA _ _ _ ?_ (by first | exact .inl rfl | exact .inr (by decide)) ?_); (focus (simp [hcs, hgcs] <;> omega)); clear hA hB A B))
    | (refine RQ.nl ?_; refine hk _ _ ?_; clear hk k)
    | refine WP.sr fun k hk => ?_ | refine WP.r fun k hk => ?_
    | refine WP.sd _ rfl fun k hk => ?_ | refine WP.d _ rfl fun k hk => ?_
    | (refine WP.cc fun A B hA hB => ?_; simp [hcs, hgcs, onB_t, onB_f]; first | (refine hA ?_; clear hA hB A B) | (refine hB ?_; clear hA hB A B) | (refine onB_if (fun h => hA ?_) (fun h => hB ?_) <;> clear hA hB A B))
    | refine WP.q ?_ | refine WP.b ?_)
  refine WP_loop (fun m T s' => ∃ (i : Nat), m + i = ab.length ∧ T.get 1 = .sl (fs.map Fc.cs) ∧ T.get 3 = .sl (ab.map Fc.cs) ∧ T.get 4 = .ptr s.nx 0 ∧ T.get 6 = .ptr (s.nx + 1) 0 ∧
    s'.get s.nx = some (.var 25 [.sl (g.decls.map Dc.cs), .sl (g.rules.map Rl.cs)]) ∧ s'.get (s.nx + 1) = some (.var 34 [.str n.f.p, .sl (n.f.a.map V.cs), .int .i64 n.r, .sl (n.k.map Nd.cs)]) ∧ s.nx + 1 < s'.nx ∧
    T.get 9 = .int .i64 i ∧ (ab.any fun x => cmpF x n.f == 0) = ((ab.drop i).any fun x => cmpF x n.f == 0)) ab.length
    ⟨0, by simp, by simp, by simp, by simp, by simp, by simp [St.get_push], by simp [St.get_push], by simp, by simp, by simp⟩ ?_
  rintro m T s' ⟨i, hmi, h1, h3, h4, h6, hg0, hg1, hnx, h9, hany⟩
  have hnx0 : s.nx < s'.nx := by omega
  by_cases hi : i < ab.length
  · have hw : IntKind.i64.wrap ((i : Int) + 1) = (i : Int) + 1 := wrap64 (by omega) (by have := hab'.1; simp only [MB] at this; omega)
    have hlt : ((i : Int) < (ab.length : Int)) := by omega
    have hb : ab[i]? = some ab[i] := List.getElem?_eq_getElem hi
    have had := hany.trans (any_drop hi)
    have hcm := fun s2 => QP_cmp (N := N) ab[i] n.f (habS' _ (List.getElem_mem hi)) hnS'.1 s2
    generalize hx : ab[i] = x at *
    cases hz : (cmpF x n.f == 0) with
    | true =>
      rw [hz] at had
      rw [hpe, had]
      repeat' (first
        | refine WP.t ?_ | refine WP.k ?_ | refine WP.e ?_ | refine Qn ?_ | refine Qr ?_ | refine Qe ?_ | refine Bn ?_ | refine Br ?_ | refine Be ?_ | refine Bx (by decide) ?_
        | (refine RS.nl ?_; refine hk _ _ ?_; clear hk k)
        | ((first | refine RS.st fun A B hA hB => ?_ | refine RQ.st fun A B hA hB => ?_); simp [h1, h3, h4, h6, h9, hg0, hg1, hnx, hnx0, hlt, hi, hb, hx, hw, hcm, hz, Fc.cs, onW_t, onW_f, onV_s]; first | ((first | refine hA _ _ _ ?_ ?_ | refine hA _ _ _ ?_ (by first | exact .inl rfl | exact .inr (by decide)) ?_); (focus (simp [h1, h3, h4, h6, h9, hg0, hg1, hnx, hnx0, hlt, hi, hb, hx, hw, hcm, hz, Fc.cs] <;> omega)); clear hA hB A B) | (refine hB ?_; clear hA hB A B) | (refine onV_if ?_ ?_; (focus (first | omega | (refine ⟨?_, ?_⟩ <;> omega))); simp only [onV_s]; (first | refine hA _ _ _ ?_ ?_ | refine hA _ _ _ ?_ (by first | exact .inl rfl | exact .inr (by decide)) ?_); (focus (simp [h1, h3, h4, h6, h9, hg0, hg1, hnx, hnx0, hlt, hi, hb, hx, hw, hcm, hz, Fc.cs] <;> omega)); clear hA hB A B))
        | (refine RQ.nl ?_; refine hk _ _ ?_; clear hk k)
        | refine WP.sr fun k hk => ?_ | refine WP.r fun k hk => ?_
        | refine WP.sd _ rfl fun k hk => ?_ | refine WP.d _ rfl fun k hk => ?_
        | (refine WP.cc fun A B hA hB => ?_; simp [h1, h3, h4, h6, h9, hg0, hg1, hnx, hnx0, hlt, hi, hb, hx, hw, hcm, hz, Fc.cs, onB_t, onB_f]; first | (refine hA ?_; clear hA hB A B) | (refine hB ?_; clear hA hB A B) | (refine onB_if (fun h => hA ?_) (fun h => hB ?_) <;> clear hA hB A B))
        | refine WP.q ?_ | refine WP.b ?_)
      simp
    | false =>
      rw [hz] at had
      repeat' (first
        | refine WP.t ?_ | refine WP.k ?_ | refine WP.e ?_ | refine Qn ?_ | refine Qr ?_ | refine Qe ?_ | refine Bn ?_ | refine Br ?_ | refine Be ?_ | refine Bx (by decide) ?_
        | (refine RS.nl ?_; refine hk _ _ ?_; clear hk k)
        | ((first | refine RS.st fun A B hA hB => ?_ | refine RQ.st fun A B hA hB => ?_); simp [h1, h3, h4, h6, h9, hg0, hg1, hnx, hnx0, hlt, hi, hb, hx, hw, hcm, hz, Fc.cs, onW_t, onW_f, onV_s]; first | ((first | refine hA _ _ _ ?_ ?_ | refine hA _ _ _ ?_ (by first | exact .inl rfl | exact .inr (by decide)) ?_); (focus (simp [h1, h3, h4, h6, h9, hg0, hg1, hnx, hnx0, hlt, hi, hb, hx, hw, hcm, hz, Fc.cs] <;> omega)); clear hA hB A B) | (refine hB ?_; clear hA hB A B) | (refine onV_if ?_ ?_; (focus (first | omega | (refine ⟨?_, ?_⟩ <;> omega))); simp only [onV_s]; (first | refine hA _ _ _ ?_ ?_ | refine hA _ _ _ ?_ (by first | exact .inl rfl | exact .inr (by decide)) ?_); (focus (simp [h1, h3, h4, h6, h9, hg0, hg1, hnx, hnx0, hlt, hi, hb, hx, hw, hcm, hz, Fc.cs] <;> omega)); clear hA hB A B))
        | (refine RQ.nl ?_; refine hk _ _ ?_; clear hk k)
        | refine WP.sr fun k hk => ?_ | refine WP.r fun k hk => ?_
        | refine WP.sd _ rfl fun k hk => ?_ | refine WP.d _ rfl fun k hk => ?_
        | (refine WP.cc fun A B hA hB => ?_; simp [h1, h3, h4, h6, h9, hg0, hg1, hnx, hnx0, hlt, hi, hb, hx, hw, hcm, hz, Fc.cs, onB_t, onB_f]; first | (refine hA ?_; clear hA hB A B) | (refine hB ?_; clear hA hB A B) | (refine onB_if (fun h => hA ?_) (fun h => hB ?_) <;> clear hA hB A B))
        | refine WP.q ?_ | refine WP.b ?_)
      exact ⟨m - 1, by omega, i + 1, by omega, by simp [h1], by simp [h3], by simp [h4], by simp [h6], hg0, hg1, hnx, by simp, had⟩
  · have hlt : ¬ ((i : Int) < (ab.length : Int)) := by omega
    have hnone : (ab.any fun x => cmpF x n.f == 0) = false := by rw [hany, List.drop_eq_nil_of_le (by omega)]; rfl
    rw [hnone] at hpe
    cases hsE : standsE g fs n with
    | false =>
      rw [hsE] at hst hpe
      rw [hpe]
      repeat' (first
        | refine WP.t ?_ | refine WP.k ?_ | refine WP.e ?_ | refine Qn ?_ | refine Qr ?_ | refine Qe ?_ | refine Bn ?_ | refine Br ?_ | refine Be ?_ | refine Bx (by decide) ?_
        | (refine RS.nl ?_; refine hk _ _ ?_; clear hk k)
        | ((first | refine RS.st fun A B hA hB => ?_ | refine RQ.st fun A B hA hB => ?_); simp [h1, h3, h4, h6, h9, hg0, hg1, hnx, hnx0, hlt, hst, onW_t, onW_f, onV_s]; first | ((first | refine hA _ _ _ ?_ ?_ | refine hA _ _ _ ?_ (by first | exact .inl rfl | exact .inr (by decide)) ?_); (focus (simp [h1, h3, h4, h6, h9, hg0, hg1, hnx, hnx0, hlt, hst] <;> omega)); clear hA hB A B) | (refine hB ?_; clear hA hB A B) | (refine onV_if ?_ ?_; (focus (first | omega | (refine ⟨?_, ?_⟩ <;> omega))); simp only [onV_s]; (first | refine hA _ _ _ ?_ ?_ | refine hA _ _ _ ?_ (by first | exact .inl rfl | exact .inr (by decide)) ?_); (focus (simp [h1, h3, h4, h6, h9, hg0, hg1, hnx, hnx0, hlt, hst] <;> omega)); clear hA hB A B))
        | (refine RQ.nl ?_; refine hk _ _ ?_; clear hk k)
        | refine WP.sr fun k hk => ?_ | refine WP.r fun k hk => ?_
        | refine WP.sd _ rfl fun k hk => ?_ | refine WP.d _ rfl fun k hk => ?_
        | (refine WP.cc fun A B hA hB => ?_; simp [h1, h3, h4, h6, h9, hg0, hg1, hnx, hnx0, hlt, hst, onB_t, onB_f]; first | (refine hA ?_; clear hA hB A B) | (refine hB ?_; clear hA hB A B) | (refine onB_if (fun h => hA ?_) (fun h => hB ?_) <;> clear hA hB A B))
        | refine WP.q ?_ | refine WP.b ?_)
      simp
    | true =>
      rw [hsE] at hst hpe
      have hpe2 : provesE g fs n ab = n.k.all fun k => provesE g fs k (ab ++ [n.f]) := by rw [hpe]; simp
      clear hpe hany hmi
      repeat' (first
        | refine WP.t ?_ | refine WP.k ?_ | refine WP.e ?_ | refine Qn ?_ | refine Qr ?_ | refine Qe ?_ | refine Bn ?_ | refine Br ?_ | refine Be ?_ | refine Bx (by decide) ?_
        | (refine RS.nl ?_; refine hk _ _ ?_; clear hk k)
        | ((first | refine RS.st fun A B hA hB => ?_ | refine RQ.st fun A B hA hB => ?_); simp [h1, h3, h4, h6, h9, hg0, hg1, hnx, hnx0, hlt, hst, onW_t, onW_f, onV_s]; first | ((first | refine hA _ _ _ ?_ ?_ | refine hA _ _ _ ?_ (by first | exact .inl rfl | exact .inr (by decide)) ?_); (focus (simp [h1, h3, h4, h6, h9, hg0, hg1, hnx, hnx0, hlt, hst] <;> omega)); clear hA hB A B) | (refine hB ?_; clear hA hB A B) | (refine onV_if ?_ ?_; (focus (first | omega | (refine ⟨?_, ?_⟩ <;> omega))); simp only [onV_s]; (first | refine hA _ _ _ ?_ ?_ | refine hA _ _ _ ?_ (by first | exact .inl rfl | exact .inr (by decide)) ?_); (focus (simp [h1, h3, h4, h6, h9, hg0, hg1, hnx, hnx0, hlt, hst] <;> omega)); clear hA hB A B))
        | (refine RQ.nl ?_; refine hk _ _ ?_; clear hk k)
        | refine WP.sr fun k hk => ?_ | refine WP.r fun k hk => ?_
        | refine WP.sd _ rfl fun k hk => ?_ | refine WP.d _ rfl fun k hk => ?_
        | (refine WP.cc fun A B hA hB => ?_; simp [h1, h3, h4, h6, h9, hg0, hg1, hnx, hnx0, hlt, hst, onB_t, onB_f]; first | (refine hA ?_; clear hA hB A B) | (refine hB ?_; clear hA hB A B) | (refine onB_if (fun h => hA ?_) (fun h => hB ?_) <;> clear hA hB A B))
        | refine WP.q ?_ | refine WP.b ?_)
      refine WP_loop (fun m T s' => ∃ (i : Nat), m + i = n.k.length ∧ T.get 1 = .sl (fs.map Fc.cs) ∧ T.get 3 = .sl (ab.map Fc.cs) ∧ T.get 4 = .ptr s.nx 0 ∧ T.get 6 = .ptr (s.nx + 1) 0 ∧
        s'.get s.nx = some (.var 25 [.sl (g.decls.map Dc.cs), .sl (g.rules.map Rl.cs)]) ∧ s'.get (s.nx + 1) = some (.var 34 [.str n.f.p, .sl (n.f.a.map V.cs), .int .i64 n.r, .sl (n.k.map Nd.cs)]) ∧ s.nx + 1 < s'.nx ∧
        T.get 10 = .int .i64 i ∧ (provesE g fs n ab = (n.k.drop i).all fun k => provesE g fs k (ab ++ [n.f]))) n.k.length
        ⟨0, by simp, by simp [h1], by simp [h3], by simp [h4], by simp [h6], hg0, hg1, hnx, by simp, hpe2⟩ ?_
      clear hlt hi h1 h3 h4 h6 h9 hg0 hg1 hnx hnx0
      rintro m2 T2 s2 ⟨i, hmi, h1, h3, h4, h6, hg0, hg1, hnx, h10, hall⟩
      have hnx0 : s.nx < s2.nx := by omega
      by_cases hi : i < n.k.length
      · have hw : IntKind.i64.wrap ((i : Int) + 1) = (i : Int) + 1 := wrap64 (by omega) (by have := hn'.2.1; simp only [MB] at this; omega)
        have hlt : ((i : Int) < (n.k.length : Int)) := by omega
        have hb : n.k[i]? = some n.k[i] := List.getElem?_eq_getElem hi
        have had := hall.trans (all_drop hi)
        have hkm := List.getElem_mem hi
        have hdk := deepL_mem hkm
        have hlen : (ab ++ [n.f]).length = ab.length + 1 := by simp
        have hab2 : okFs (ab ++ [n.f]) = true := okFs_iff.2 ⟨by rw [hlen]; omega, fun f hf => by
          rcases List.mem_append.1 hf with hf | hf
          · exact hab'.2 f hf
          · rw [List.mem_singleton] at hf; subst hf; exact hn'.1⟩
        have habS2 : okFsS (ab ++ [n.f]) = true := okFsS_iff.2 fun f hf => by
          rcases List.mem_append.1 hf with hf | hf
          · exact habS' f hf
          · rw [List.mem_singleton] at hf; subst hf; exact hnS'.1
        have hcall := fun s3 hr => QP_row (N := N) g fs n.k[i] (ab ++ [n.f]) (hN _ hkm) hg hfs (hn'.2.2 _ hkm) hab2 (by rw [hlen]; omega) hgs hfsS (hnS'.2 _ hkm) habS2 s3 (s2.nx + 1 + 1) (ab.length + 1) (by simp) hr
        generalize hx : n.k[i] = x at *
        have hxcs := Nd.cs_eq x
        generalize hs3 : ((s2.push (.row 2 (true, 29) [])).drop s2.nx).push (.row 2 (true, 29) (ab.map Fc.cs)) = s3
        have h3n : s3.nx = s2.nx + 1 + 1 := by rw [← hs3]; simp
        have g3 : s3.get (s2.nx + 1) = some (.row 2 (true, 29) (ab.map Fc.cs)) := by rw [← hs3]; simp [St.get_push]
        have lo3 : ∀ j, j < s2.nx → s3.get j = s2.get j := fun j hj => by
          rw [← hs3, St.get_push, if_neg (by simp; omega), St.get_drop, if_neg (by omega), St.get_push, if_neg (by omega)]
        have g30 := (lo3 s.nx (by omega)).trans hg0
        have g31 := (lo3 (s.nx + 1) (by omega)).trans hg1
        generalize hs4 : (s3.drop (s2.nx + 1)).push (.row 2 (true, 29) (ab.map Fc.cs ++ [[.str n.f.p, .sl (n.f.a.map V.cs)]])) = s4
        have h4n : s4.nx = s2.nx + 1 + 1 + 1 := by rw [← hs4]; simp [h3n]
        have lo4 : ∀ j, j < s2.nx → s4.get j = s3.get j := fun j hj => by
          rw [← hs4, St.get_push, if_neg (by simp [h3n]; omega), St.get_drop, if_neg (by omega)]
        have g40 := (lo4 s.nx (by omega)).trans g30
        have g41 := (lo4 (s.nx + 1) (by omega)).trans g31
        have g42 : s4.get (s2.nx + 1 + 1) = some (.row 2 (true, 29) ((ab ++ [n.f]).map Fc.cs)) := by
          rw [← hs4, St.get_push, if_pos (by simp [h3n])]
          simp [Fc.cs]
        have hc4 := hcall s4 g42
        rw [hxcs, hgcs] at hc4
        clear lo3 lo4 hcall
        have hone : (ab.map Fc.cs).all (fun y => y.length == 2 && y.all AV.one) = true := by
          rw [List.all_eq_true]
          intro y hy
          obtain ⟨z, _, rfl⟩ := List.mem_map.1 hy
          rfl
        have hby : ab.length * 40 ≤ 140737488355328 := big40 (by have := hab'.1; simp only [MB] at this; omega)
        have hby2 : (ab.length + 1) * 40 ≤ 140737488355328 := big40 (by have := hab'.1; simp only [MB] at this; omega)
        have hb1 : ∀ m, Below m (.sl (n.f.a.map V.cs)) := fun m => below_sl' cV m _
        have htl : List.take ab.length (ab.map Fc.cs) = ab.map Fc.cs := List.take_of_length_le (by simp)
        have j1 : s.nx < s2.nx + 1 := by omega
        have j2 : s.nx < s2.nx + 1 + 1 := by omega
        have j3 : s.nx < s2.nx + 1 + 1 + 1 := by omega
        have j4 : s.nx + 1 < s2.nx + 1 := by omega
        have j5 : s.nx + 1 < s2.nx + 1 + 1 := by omega
        have j6 : s.nx + 1 < s2.nx + 1 + 1 + 1 := by omega
        cases hp : provesE g fs x (ab ++ [n.f]) with
        | true =>
          rw [hp] at hc4 had
          repeat' (first
            | (refine WP.swb 2 14 (by decide) (by decide) (Keep s2 [s.nx, s.nx + 1]) fun k hk => ?_)
            | refine WP.t ?_ | refine WP.k ?_ | refine WP.e ?_ | refine Qn ?_ | refine Qr ?_ | refine Qe ?_ | refine Bn ?_ | refine Br ?_ | refine Be ?_ | refine Bx (by decide) ?_
            | (refine RS.nl ?_; refine hk _ _ ?_; clear hk k)
            | ((first | refine RS.st fun A B hA hB => ?_ | refine RQ.st fun A B hA hB => ?_); simp [h1, h3, h4, h6, h10, hg0, hg1, hnx, hnx0, hlt, hi, hb, hx, hw, hxcs, hs3, h3n, g3, g30, g31, hs4, h4n, g40, g41, hc4, hone, hby, hby2, hb1, htl, St.get_drop, j1, j2, j3, j4, j5, j6, onW_t, onW_f, onV_s]; first | ((first | refine hA _ _ _ ?_ ?_ | refine hA _ _ _ ?_ (by first | exact .inl rfl | exact .inr (by decide)) ?_); (focus (simp [h1, h3, h4, h6, h10, hg0, hg1, hnx, hnx0, hlt, hi, hb, hx, hw, hxcs, hs3, h3n, g3, g30, g31, hs4, h4n, g40, g41, hc4, hone, hby, hby2, hb1, htl, St.get_drop, j1, j2, j3, j4, j5, j6] <;> omega)); clear hA hB A B) | (refine hB ?_; clear hA hB A B) | (refine onV_if ?_ ?_; (focus (first | omega | (refine ⟨?_, ?_⟩ <;> omega))); simp only [onV_s]; (first | refine hA _ _ _ ?_ ?_ | refine hA _ _ _ ?_ (by first | exact .inl rfl | exact .inr (by decide)) ?_); (focus (simp [h1, h3, h4, h6, h10, hg0, hg1, hnx, hnx0, hlt, hi, hb, hx, hw, hxcs, hs3, h3n, g3, g30, g31, hs4, h4n, g40, g41, hc4, hone, hby, hby2, hb1, htl, St.get_drop, j1, j2, j3, j4, j5, j6] <;> omega)); clear hA hB A B))
            | (refine RQ.nl ?_; refine hk _ _ ?_; clear hk k)
            | (refine RW.nl ?_ ?_; (focus (first | exact .inl (by decide) | (refine .inr ?_; (simp [h1, h3, h4, h6, h10, hg0, hg1, hnx, hnx0, hlt, hi, hb, hx, hw, hxcs, hs3, h3n, g3, g30, g31, hs4, h4n, g40, g41, hc4, hone, hby, hby2, hb1, htl, St.get_drop, j1, j2, j3, j4, j5, j6] <;> omega)))); refine hk _ _ ?_; clear hk k)
            | (refine RW.st ?_ fun A B hA hB => ?_; (focus (first | exact .inl (by decide) | (refine .inr ?_; (simp [h1, h3, h4, h6, h10, hg0, hg1, hnx, hnx0, hlt, hi, hb, hx, hw, hxcs, hs3, h3n, g3, g30, g31, hs4, h4n, g40, g41, hc4, hone, hby, hby2, hb1, htl, St.get_drop, j1, j2, j3, j4, j5, j6] <;> omega)))); simp [h1, h3, h4, h6, h10, hg0, hg1, hnx, hnx0, hlt, hi, hb, hx, hw, hxcs, hs3, h3n, g3, g30, g31, hs4, h4n, g40, g41, hc4, hone, hby, hby2, hb1, htl, St.get_drop, j1, j2, j3, j4, j5, j6, onW_t, onW_f, onV_s]; first | (refine hA _ _ _ ?_ ?_ ?_ ?_; (focus (simp [h1, h3, h4, h6, h10, hg0, hg1, hnx, hnx0, hlt, hi, hb, hx, hw, hxcs, hs3, h3n, g3, g30, g31, hs4, h4n, g40, g41, hc4, hone, hby, hby2, hb1, htl, St.get_drop, j1, j2, j3, j4, j5, j6] <;> omega)); (focus (first | exact .inl (by decide) | exact .inr (.inl rfl) | exact .inr (.inr rfl))); (focus (first | exact .inl (by decide) | exact .inr (.inl (by decide)) | (refine .inr (.inr fun s2 hs2 => ?_); have hs2n := hs2.nx; simp only [Keep_cons, Keep_nil] at hs2; simp [h1, h3, h4, h6, h10, hg0, hg1, hnx, hnx0, hlt, hi, hb, hx, hw, hxcs, hs3, h3n, g3, g30, g31, hs4, h4n, g40, g41, hc4, hone, hby, hby2, hb1, htl, St.get_drop, j1, j2, j3, j4, j5, j6, hs2, hs2n]; done))); clear hA hB A B) | (refine hB ?_; clear hA hB A B))
            | refine WP.sr fun k hk => ?_ | refine WP.r fun k hk => ?_
            | (refine WP.swK [] ?_ fun k hk => ?_; (focus (decide))) | (refine WP.wK [] ?_ fun k hk => ?_; (focus (decide))) | refine WP.sd _ rfl fun k hk => ?_ | refine WP.d _ rfl fun k hk => ?_
            | (refine WP.cc fun A B hA hB => ?_; simp [h1, h3, h4, h6, h10, hg0, hg1, hnx, hnx0, hlt, hi, hb, hx, hw, hxcs, hs3, h3n, g3, g30, g31, hs4, h4n, g40, g41, hc4, hone, hby, hby2, hb1, htl, St.get_drop, j1, j2, j3, j4, j5, j6, onB_t, onB_f]; first | (refine hA ?_; clear hA hB A B) | (refine hB ?_; clear hA hB A B) | (refine onB_if (fun h => hA ?_) (fun h => hB ?_) <;> clear hA hB A B))
            | refine WP.q ?_ | refine WP.b ?_)
          exact ⟨m2 - 1, by omega, i + 1, by omega, by simp [h1], by simp [h3], by simp [h4], by simp [h6], g40, g41, by rw [h4n]; omega, by simp, had⟩
        | false =>
          rw [hp] at hc4 had
          repeat' (first
            | (refine WP.swb 2 14 (by decide) (by decide) (Keep s2 [s.nx, s.nx + 1]) fun k hk => ?_)
            | refine WP.t ?_ | refine WP.k ?_ | refine WP.e ?_ | refine Qn ?_ | refine Qr ?_ | refine Qe ?_ | refine Bn ?_ | refine Br ?_ | refine Be ?_ | refine Bx (by decide) ?_
            | (refine RS.nl ?_; refine hk _ _ ?_; clear hk k)
            | ((first | refine RS.st fun A B hA hB => ?_ | refine RQ.st fun A B hA hB => ?_); simp [h1, h3, h4, h6, h10, hg0, hg1, hnx, hnx0, hlt, hi, hb, hx, hw, hxcs, hs3, h3n, g3, g30, g31, hs4, h4n, g40, g41, hc4, hone, hby, hby2, hb1, htl, St.get_drop, j1, j2, j3, j4, j5, j6, onW_t, onW_f, onV_s]; first | ((first | refine hA _ _ _ ?_ ?_ | refine hA _ _ _ ?_ (by first | exact .inl rfl | exact .inr (by decide)) ?_); (focus (simp [h1, h3, h4, h6, h10, hg0, hg1, hnx, hnx0, hlt, hi, hb, hx, hw, hxcs, hs3, h3n, g3, g30, g31, hs4, h4n, g40, g41, hc4, hone, hby, hby2, hb1, htl, St.get_drop, j1, j2, j3, j4, j5, j6] <;> omega)); clear hA hB A B) | (refine hB ?_; clear hA hB A B) | (refine onV_if ?_ ?_; (focus (first | omega | (refine ⟨?_, ?_⟩ <;> omega))); simp only [onV_s]; (first | refine hA _ _ _ ?_ ?_ | refine hA _ _ _ ?_ (by first | exact .inl rfl | exact .inr (by decide)) ?_); (focus (simp [h1, h3, h4, h6, h10, hg0, hg1, hnx, hnx0, hlt, hi, hb, hx, hw, hxcs, hs3, h3n, g3, g30, g31, hs4, h4n, g40, g41, hc4, hone, hby, hby2, hb1, htl, St.get_drop, j1, j2, j3, j4, j5, j6] <;> omega)); clear hA hB A B))
            | (refine RQ.nl ?_; refine hk _ _ ?_; clear hk k)
            | (refine RW.nl ?_ ?_; (focus (first | exact .inl (by decide) | (refine .inr ?_; (simp [h1, h3, h4, h6, h10, hg0, hg1, hnx, hnx0, hlt, hi, hb, hx, hw, hxcs, hs3, h3n, g3, g30, g31, hs4, h4n, g40, g41, hc4, hone, hby, hby2, hb1, htl, St.get_drop, j1, j2, j3, j4, j5, j6] <;> omega)))); refine hk _ _ ?_; clear hk k)
            | (refine RW.st ?_ fun A B hA hB => ?_; (focus (first | exact .inl (by decide) | (refine .inr ?_; (simp [h1, h3, h4, h6, h10, hg0, hg1, hnx, hnx0, hlt, hi, hb, hx, hw, hxcs, hs3, h3n, g3, g30, g31, hs4, h4n, g40, g41, hc4, hone, hby, hby2, hb1, htl, St.get_drop, j1, j2, j3, j4, j5, j6] <;> omega)))); simp [h1, h3, h4, h6, h10, hg0, hg1, hnx, hnx0, hlt, hi, hb, hx, hw, hxcs, hs3, h3n, g3, g30, g31, hs4, h4n, g40, g41, hc4, hone, hby, hby2, hb1, htl, St.get_drop, j1, j2, j3, j4, j5, j6, onW_t, onW_f, onV_s]; first | (refine hA _ _ _ ?_ ?_ ?_ ?_; (focus (simp [h1, h3, h4, h6, h10, hg0, hg1, hnx, hnx0, hlt, hi, hb, hx, hw, hxcs, hs3, h3n, g3, g30, g31, hs4, h4n, g40, g41, hc4, hone, hby, hby2, hb1, htl, St.get_drop, j1, j2, j3, j4, j5, j6] <;> omega)); (focus (first | exact .inl (by decide) | exact .inr (.inl rfl) | exact .inr (.inr rfl))); (focus (first | exact .inl (by decide) | exact .inr (.inl (by decide)) | (refine .inr (.inr fun s2 hs2 => ?_); have hs2n := hs2.nx; simp only [Keep_cons, Keep_nil] at hs2; simp [h1, h3, h4, h6, h10, hg0, hg1, hnx, hnx0, hlt, hi, hb, hx, hw, hxcs, hs3, h3n, g3, g30, g31, hs4, h4n, g40, g41, hc4, hone, hby, hby2, hb1, htl, St.get_drop, j1, j2, j3, j4, j5, j6, hs2, hs2n]; done))); clear hA hB A B) | (refine hB ?_; clear hA hB A B))
            | refine WP.sr fun k hk => ?_ | refine WP.r fun k hk => ?_
            | (refine WP.swK [] ?_ fun k hk => ?_; (focus (decide))) | (refine WP.wK [] ?_ fun k hk => ?_; (focus (decide))) | refine WP.sd _ rfl fun k hk => ?_ | refine WP.d _ rfl fun k hk => ?_
            | (refine WP.cc fun A B hA hB => ?_; simp [h1, h3, h4, h6, h10, hg0, hg1, hnx, hnx0, hlt, hi, hb, hx, hw, hxcs, hs3, h3n, g3, g30, g31, hs4, h4n, g40, g41, hc4, hone, hby, hby2, hb1, htl, St.get_drop, j1, j2, j3, j4, j5, j6, onB_t, onB_f]; first | (refine hA ?_; clear hA hB A B) | (refine hB ?_; clear hA hB A B) | (refine onB_if (fun h => hA ?_) (fun h => hB ?_) <;> clear hA hB A B))
            | refine WP.q ?_ | refine WP.b ?_)
          rw [had]
          simp
      · have hlt : ¬ ((i : Int) < (n.k.length : Int)) := by omega
        have hend : provesE g fs n ab = true := by rw [hall, List.drop_eq_nil_of_le (by omega)]; rfl
        repeat' (first
          | refine WP.t ?_ | refine WP.k ?_ | refine WP.e ?_ | refine Qn ?_ | refine Qr ?_ | refine Qe ?_ | refine Bn ?_ | refine Br ?_ | refine Be ?_ | refine Bx (by decide) ?_
          | (refine RS.nl ?_; refine hk _ _ ?_; clear hk k)
          | ((first | refine RS.st fun A B hA hB => ?_ | refine RQ.st fun A B hA hB => ?_); simp [h1, h3, h4, h6, h10, hg0, hg1, hnx, hnx0, hlt, onW_t, onW_f, onV_s]; first | ((first | refine hA _ _ _ ?_ ?_ | refine hA _ _ _ ?_ (by first | exact .inl rfl | exact .inr (by decide)) ?_); (focus (simp [h1, h3, h4, h6, h10, hg0, hg1, hnx, hnx0, hlt] <;> omega)); clear hA hB A B) | (refine hB ?_; clear hA hB A B) | (refine onV_if ?_ ?_; (focus (first | omega | (refine ⟨?_, ?_⟩ <;> omega))); simp only [onV_s]; (first | refine hA _ _ _ ?_ ?_ | refine hA _ _ _ ?_ (by first | exact .inl rfl | exact .inr (by decide)) ?_); (focus (simp [h1, h3, h4, h6, h10, hg0, hg1, hnx, hnx0, hlt] <;> omega)); clear hA hB A B))
          | (refine RQ.nl ?_; refine hk _ _ ?_; clear hk k)
          | refine WP.sr fun k hk => ?_ | refine WP.r fun k hk => ?_
          | refine WP.sd _ rfl fun k hk => ?_ | refine WP.d _ rfl fun k hk => ?_
          | (refine WP.cc fun A B hA hB => ?_; simp [h1, h3, h4, h6, h10, hg0, hg1, hnx, hnx0, hlt, onB_t, onB_f]; first | (refine hA ?_; clear hA hB A B) | (refine hB ?_; clear hA hB A B) | (refine onB_if (fun h => hA ?_) (fun h => hB ?_) <;> clear hA hB A B))
          | refine WP.q ?_ | refine WP.b ?_)
        rw [hend]
        simp
end
end Go.Am
namespace Go.Am
open Go.Proofs
def leavesL (l : List Nd) : List Fc := ((allL l).filter leafB).map Nd.f
theorem leavesE_eq (n : Nd) : leavesE n = if n.k.length = 0 then [n.f] else leavesL n.k := by
  unfold leavesE leavesL
  rw [allE_eq, List.filter_cons]
  by_cases h : n.k.length = 0
  · have h0 : n.k = [] := List.eq_nil_of_length_eq_zero h
    have h1 : leafB n = true := by unfold leafB; simp [h0]
    rw [if_pos h1, if_pos h, h0]; rfl
  · have h1 : leafB n = false := by unfold leafB; simpa using h
    rw [h1, if_neg h]; rfl
theorem leavesL_take {l : List Nd} {i : Nat} (h : i < l.length) : leavesL (l.take (i + 1)) = leavesL (l.take i) ++ leavesE l[i] := by
  unfold leavesL leavesE
  rw [allL_take h, List.filter_append, List.map_append]
theorem leavesL_len (l : List Nd) : (leavesL l).length ≤ sizeL l := by
  unfold leavesL
  rw [List.length_map, ← allL_len l fun n _ => allE_len n]
  exact List.length_filter_le _ _
theorem leavesE_ne (n : Nd) : leavesE n ≠ [] := by
  induction n using Nd.ind with
  | h n ih =>
    rw [leavesE_eq]
    split
    · simp
    · rename_i h
      intro h2
      have hp : 0 < n.k.length := by omega
      have h3 := leavesL_take hp
      have h4 : leavesL (n.k.take 1) = [] := by
        have : leavesL n.k = leavesL (n.k.take 1) ++ leavesL (n.k.drop 1) := by
          unfold leavesL
          rw [← List.map_append, ← List.filter_append, ← allL_append, List.take_append_drop]
        rw [this] at h2
        exact (List.append_eq_nil_iff.1 h2).1
      rw [h4] at h3
      exact ih _ (List.getElem_mem hp) (List.append_eq_nil_iff.1 h3.symm).2
section
variable {K : Nat} {gw : World} {s : St}
attribute [local simp] awanted xop zOf cz zrow aop ev T0 Slots.put Slots.set Slots.get awr WOk AV.may ofConst abinop aint isConst St.get_push St.get_put St.live AV.fit AV.cells AV.one fieldOf afieldAddr aload ofCells astore splice May eqres env_ti FinP FinZ FinW ares aresL ares1 Fns.addP Fns.add Fns.a0 Fns.a1 Fns.a2 Fns.a3 Fns.a4 abuiltin alenOk alen aindex elemOfT elemId abuildSlice afill chunks ard aappend isSS AV.isStr aminmax placesOf abuild afield aidx isStrD isStrDesc astrop aslice asliceOk abound arange anext aextract aunop aeq AV.ck avseq aveq aconv aconvert onB_t onB_f List.range_succ ti0 ti1 ti2 ti3 ti4 ti5 ti6 ti7 ti8 ti9 ti10 ti11 ti12 ti13 ti14 ti15 ti16 ti17 ti18 ti19 ti20 ti21 ti22 ti23 ti24 ti25 ti26 ti27 ti28 ti29 ti30 ti31 ti32 ti33 ti34 ti35 ti36 ti37 ti38 ti39 ti40 ti41 ti42 ti43 ti44 ti45 ti46 ti47 ti48 ti49 ti50 ti51 ti52 ti53 ti54 ti55 ti56 ti57 ti58 ti59 ti60 ti61 ti62 ti63 ti64 ti65 ti66 ti67 ti68 ti69 ti70 ti71 ti72 ti73 ti74 ti75 ti76 ti77 ti78 ti79 ti80 ti81 ti82 ti83 ti84 ti85 ti86 ti87 ti88 ti89 ti90 ti91 ti92 ti93 ti94 ti95 ti96 ti97 ti98 ti99 ti100 ti101 ti102 ti103 ti104 ti105 ti106 ti107 ti108 ti109 ti110 ti111 ti112 ti113 ti114 ti115 ti116 ti117 ti118 ti119 ti120 ti121 ti122 ti123 ti124 ti125 ti126 ti127 ti128 ti129 ti130 ti131 ti132 ti133 ti134 ti135 ti136 ti137 ti138 ti139 ti140 ti141 ti142 ti143 ti144 ti145 ti146 ti147 ti148 ti149 ti150 ti151 ti152 ti153 ti154 ti155 ti156 ti157 ti158 ti159 ti160 ti161 ti162 ti163 ti164 ti165 ti166 ti167 ti168 ti169 ti170 ti171 ti172 ti173 ti174 ti175 ti176 ti177 ti178 ti179 ti180 ti181 ti182 ti183 ti184 ti185 ti186 ti187 ti188 ti189 ti190 ti191 ti192
theorem PrIHR_all (N : Nat) : PrIHR K gw N := by
  induction N with
  | zero => exact fun g fs k ab s h => absurd h (Nat.not_lt_zero _)
  | succ N ih =>
    intro g fs k ab s hN hg hfs hk hab hd h1 h2 h3 h4
    exact ft_RProves ih g fs k ab (fun c hc => by have := Nd.kid_lt hc; omega) hg hfs hk hab hd h1 h2 h3 h4
theorem ft_RCheck (g : Pg) (fs : List Fc) (n : Nd) (hg : okPg g = true) (hfs : okFs fs = true) (hn : okT n = true) (hd : deepE n < MB) (hgS : okPgS g = true) (hfsS : okFsS fs = true) (hnS : okTS n = true) :
    FT (env K gw) NoW 10 [.agg g.cs, .sl (fs.map Fc.cs), .agg n.cs] s (.int .i64 (if provesE g fs n [] then 0 else 11)) s := by
  have hcs := Nd.cs_eq n
  have hgcs : g.cs = [.sl (g.decls.map Dc.cs), .sl (g.rules.map Rl.cs)] := rfl
  have hcall := fun s2 => QP_nil (N := SizeOf.sizeOf n + 1) g fs n (Nat.lt_succ_self _) hg hfs hn hd hgS hfsS hnS s2
  rw [hcs, hgcs] at hcall
  refine FT.pure (fn := Tryz.f10) (QP_ok (PrIHR_all (SizeOf.sizeOf n + 1))) mixed Tryz.func10 (by kernel_rfl) (by rfl) rfl rfl (by simp) rfl fun μ w => ?_
  cases hp : provesE g fs n [] with
  | true =>
    rw [hp] at hcall
    repeat' (first
      | refine WP.t ?_ | refine WP.k ?_ | refine WP.e ?_ | refine Qn ?_ | refine Qr ?_ | refine Qe ?_ | refine Bn ?_ | refine Br ?_ | refine Be ?_ | refine Bx (by decide) ?_
      | (refine RS.nl ?_; refine hk _ _ ?_; clear hk k)
      | ((first | refine RS.st fun A B hA hB => ?_ | refine RQ.st fun A B hA hB => ?_); simp [hcs, hgcs, hcall, onW_t, onW_f, onV_s]; first | ((first | refine hA _ _ _ ?_ ?_ | refine hA _ _ _ ?_ (by first | exact .inl rfl | exact .inr (by decide)) ?_); (focus (simp [hcs, hgcs, hcall] <;> omega)); clear hA hB A B) | (refine hB ?_; clear hA hB A B) | (refine onV_if ?_ ?_; (focus (first | omega | (refine ⟨?_, ?_⟩ <;> omega))); simp only [onV_s]; (first | refine hA _ _ _ ?_ ?_ | refine hA _ _ _ ?_ (by first | exact .inl rfl | exact .inr (by decide)) ?_); (focus (simp [hcs, hgcs, hcall] <;> omega)); clear hA hB A B))
      | (refine RQ.nl ?_; refine hk _ _ ?_; clear hk k)
      | refine WP.sr fun k hk => ?_ | refine WP.r fun k hk => ?_
      | refine WP.sd _ rfl fun k hk => ?_ | refine WP.d _ rfl fun k hk => ?_
      | (refine WP.cc fun A B hA hB => ?_; simp [hcs, hgcs, hcall, onB_t, onB_f]; first | (refine hA ?_; clear hA hB A B) | (refine hB ?_; clear hA hB A B) | (refine onB_if (fun h => hA ?_) (fun h => hB ?_) <;> clear hA hB A B))
      | refine WP.q ?_ | refine WP.b ?_)
    simp
  | false =>
    rw [hp] at hcall
    repeat' (first
      | refine WP.t ?_ | refine WP.k ?_ | refine WP.e ?_ | refine Qn ?_ | refine Qr ?_ | refine Qe ?_ | refine Bn ?_ | refine Br ?_ | refine Be ?_ | refine Bx (by decide) ?_
      | (refine RS.nl ?_; refine hk _ _ ?_; clear hk k)
      | ((first | refine RS.st fun A B hA hB => ?_ | refine RQ.st fun A B hA hB => ?_); simp [hcs, hgcs, hcall, onW_t, onW_f, onV_s]; first | ((first | refine hA _ _ _ ?_ ?_ | refine hA _ _ _ ?_ (by first | exact .inl rfl | exact .inr (by decide)) ?_); (focus (simp [hcs, hgcs, hcall] <;> omega)); clear hA hB A B) | (refine hB ?_; clear hA hB A B) | (refine onV_if ?_ ?_; (focus (first | omega | (refine ⟨?_, ?_⟩ <;> omega))); simp only [onV_s]; (first | refine hA _ _ _ ?_ ?_ | refine hA _ _ _ ?_ (by first | exact .inl rfl | exact .inr (by decide)) ?_); (focus (simp [hcs, hgcs, hcall] <;> omega)); clear hA hB A B))
      | (refine RQ.nl ?_; refine hk _ _ ?_; clear hk k)
      | refine WP.sr fun k hk => ?_ | refine WP.r fun k hk => ?_
      | refine WP.sd _ rfl fun k hk => ?_ | refine WP.d _ rfl fun k hk => ?_
      | (refine WP.cc fun A B hA hB => ?_; simp [hcs, hgcs, hcall, onB_t, onB_f]; first | (refine hA ?_; clear hA hB A B) | (refine hB ?_; clear hA hB A B) | (refine onB_if (fun h => hA ?_) (fun h => hB ?_) <;> clear hA hB A B))
      | refine WP.q ?_ | refine WP.b ?_)
    simp
theorem ft_RDeep {N : Nat} (ih : ∀ (k : Nd) (s : St), SizeOf.sizeOf k < N → sizeE k < MB → FT (env K gw) NoW 14 [.agg k.cs] s (.int .i64 (deepE k)) s) (n : Nd) (hN : ∀ k ∈ n.k, SizeOf.sizeOf k < N) (hn : sizeE n < MB) :
    FT (env K gw) NoW 14 [.agg n.cs] s (.int .i64 (deepE n)) s := by
  have hok : FOk (env K gw) (F0.addP 14 (gN N fun k => .int .i64 (deepE k))) := F0_ok.addP (gN_ok ih)
  have hcs := Nd.cs_eq n
  have hds := deep_size n
  rw [sizeE_eq] at hn hds
  have hlen := len_sizeL n.k
  refine FT.pure (fn := Tryz.f14) hok mixed Tryz.func14 (by kernel_rfl) (by rfl) rfl rfl (by simp) rfl fun μ w => ?_
  repeat' (first
    | refine WP.t ?_ | refine WP.k ?_ | refine WP.e ?_ | refine Qn ?_ | refine Qr ?_ | refine Qe ?_ | refine Bn ?_ | refine Br ?_ | refine Be ?_ | refine Bx (by decide) ?_
    | (refine RS.nl ?_; refine hk _ _ ?_; clear hk k)
    | ((first | refine RS.st fun A B hA hB => ?_ | refine RQ.st fun A B hA hB => ?_); simp [hcs, onW_t, onW_f, onV_s]; first | ((first | refine hA _ _ _ ?_ ?_ | refine hA _ _ _ ?_ (by first | exact .inl rfl | exact .inr (by decide)) ?_); (focus (simp [hcs] <;> omega)); clear hA hB A B) | (refine hB ?_; clear hA hB A B) | (refine onV_if ?_ ?_; (focus (first | omega | (refine ⟨?_, ?_⟩ <;> omega))); simp only [onV_s]; (first | refine hA _ _ _ ?_ ?_ | refine hA _ _ _ ?_ (by first | exact .inl rfl | exact .inr (by decide)) ?_); (focus (simp [hcs] <;> omega)); clear hA hB A B))
    | (refine RQ.nl ?_; refine hk _ _ ?_; clear hk k)
    | refine WP.sr fun k hk => ?_ | refine WP.r fun k hk => ?_
    | refine WP.sd _ rfl fun k hk => ?_ | refine WP.d _ rfl fun k hk => ?_
    | (refine WP.cc fun A B hA hB => ?_; simp [hcs, onB_t, onB_f]; first | (refine hA ?_; clear hA hB A B) | (refine hB ?_; clear hA hB A B) | (refine onB_if (fun h => hA ?_) (fun h => hB ?_) <;> clear hA hB A B))
    | refine WP.q ?_ | refine WP.b ?_)
  refine WP_loop (fun m T s' => ∃ i : Nat, m + i = n.k.length ∧ T.get 1 = .ptr s.nx 0 ∧ T.get 3 = .int .i64 (deepL (n.k.take i) : Nat) ∧ T.get 4 = .int .i64 i ∧ s.nx < s'.nx ∧ s'.get s.nx = some (.var 34 [.str n.f.p, .sl (n.f.a.map V.cs), .int .i64 n.r, .sl (n.k.map Nd.cs)])) n.k.length ⟨0, by simp, by simp, by simp [deepL], by simp, by simp, by simp⟩ ?_
  rintro m T s' ⟨i, hmi, h1, h3, h4, hnx, hg⟩
  by_cases hi : i < n.k.length
  · have hw : IntKind.i64.wrap ((i : Int) + 1) = (i : Int) + 1 := wrap64 (by omega) (by simp only [MB] at hn; omega)
    have hlt : ((i : Int) < (n.k.length : Int)) := by omega
    have hb : n.k[i]? = some n.k[i] := List.getElem?_eq_getElem hi
    have htk := deepL_take hi
    have hm := List.getElem_mem hi
    have hsm := sizeL_mem hm
    have hcall := gN_of (N := N) (v := fun k => .int .i64 (deepE k)) n.k[i] (hN _ hm) (by omega)
    generalize hx : n.k[i] = x at *
    have hkcs := Nd.cs_eq x
    rw [hkcs] at hcall
    repeat' (first
      | refine WP.t ?_ | refine WP.k ?_ | refine WP.e ?_ | refine Qn ?_ | refine Qr ?_ | refine Qe ?_ | refine Bn ?_ | refine Br ?_ | refine Be ?_ | refine Bx (by decide) ?_
      | (refine RS.nl ?_; refine hk _ _ ?_; clear hk k)
      | ((first | refine RS.st fun A B hA hB => ?_ | refine RQ.st fun A B hA hB => ?_); simp [h1, h3, h4, hnx, hg, hlt, hi, hb, hx, hw, hkcs, hcall, onW_t, onW_f, onV_s]; first | ((first | refine hA _ _ _ ?_ ?_ | refine hA _ _ _ ?_ (by first | exact .inl rfl | exact .inr (by decide)) ?_); (focus (simp [h1, h3, h4, hnx, hg, hlt, hi, hb, hx, hw, hkcs, hcall] <;> omega)); clear hA hB A B) | (refine hB ?_; clear hA hB A B) | (refine onV_if ?_ ?_; (focus (first | omega | (refine ⟨?_, ?_⟩ <;> omega))); simp only [onV_s]; (first | refine hA _ _ _ ?_ ?_ | refine hA _ _ _ ?_ (by first | exact .inl rfl | exact .inr (by decide)) ?_); (focus (simp [h1, h3, h4, hnx, hg, hlt, hi, hb, hx, hw, hkcs, hcall] <;> omega)); clear hA hB A B))
      | (refine RQ.nl ?_; refine hk _ _ ?_; clear hk k)
      | refine WP.sr fun k hk => ?_ | refine WP.r fun k hk => ?_
      | refine WP.sd _ rfl fun k hk => ?_ | refine WP.d _ rfl fun k hk => ?_
      | (refine WP.cc fun A B hA hB => ?_; simp [h1, h3, h4, hnx, hg, hlt, hi, hb, hx, hw, hkcs, hcall, onB_t, onB_f]; first | (refine hA ?_; clear hA hB A B) | (refine hB ?_; clear hA hB A B) | (refine onB_if (fun h => hA ?_) (fun h => hB ?_) <;> clear hA hB A B))
      | refine WP.q ?_ | refine WP.b ?_)
    refine ⟨m - 1, by omega, i + 1, by omega, by simp [h1], ?_, by simp, by simp [hnx], by simp [hg]⟩
    simp
    omega
  · have hlt : ¬ ((i : Int) < (n.k.length : Int)) := by omega
    have he : n.k.take i = n.k := List.take_of_length_le (by omega)
    rw [he] at h3
    have hw3 : IntKind.i64.wrap ((deepL n.k : Int) + 1) = (deepL n.k : Int) + 1 := wrap64 (by omega) (by rw [deepE_eq] at hds; simp only [MB] at hn; omega)
    repeat' (first
      | refine WP.t ?_ | refine WP.k ?_ | refine WP.e ?_ | refine Qn ?_ | refine Qr ?_ | refine Qe ?_ | refine Bn ?_ | refine Br ?_ | refine Be ?_ | refine Bx (by decide) ?_
      | (refine RS.nl ?_; refine hk _ _ ?_; clear hk k)
      | ((first | refine RS.st fun A B hA hB => ?_ | refine RQ.st fun A B hA hB => ?_); simp [h1, h3, h4, hnx, hg, hlt, hw3, onW_t, onW_f, onV_s]; first | ((first | refine hA _ _ _ ?_ ?_ | refine hA _ _ _ ?_ (by first | exact .inl rfl | exact .inr (by decide)) ?_); (focus (simp [h1, h3, h4, hnx, hg, hlt, hw3] <;> omega)); clear hA hB A B) | (refine hB ?_; clear hA hB A B) | (refine onV_if ?_ ?_; (focus (first | omega | (refine ⟨?_, ?_⟩ <;> omega))); simp only [onV_s]; (first | refine hA _ _ _ ?_ ?_ | refine hA _ _ _ ?_ (by first | exact .inl rfl | exact .inr (by decide)) ?_); (focus (simp [h1, h3, h4, hnx, hg, hlt, hw3] <;> omega)); clear hA hB A B))
      | (refine RQ.nl ?_; refine hk _ _ ?_; clear hk k)
      | refine WP.sr fun k hk => ?_ | refine WP.r fun k hk => ?_
      | refine WP.sd _ rfl fun k hk => ?_ | refine WP.d _ rfl fun k hk => ?_
      | (refine WP.cc fun A B hA hB => ?_; simp [h1, h3, h4, hnx, hg, hlt, hw3, onB_t, onB_f]; first | (refine hA ?_; clear hA hB A B) | (refine hB ?_; clear hA hB A B) | (refine onB_if (fun h => hA ?_) (fun h => hB ?_) <;> clear hA hB A B))
      | refine WP.q ?_ | refine WP.b ?_)
    rw [deepE_eq]
    simp
theorem ft_RLeaves {N : Nat} (ih : ∀ (k : Nd) (s : St), SizeOf.sizeOf k < N → sizeE k < MB → FT (env K gw) NoW 17 [.agg k.cs] s (.sl ((leavesE k).map Fc.cs)) s) (n : Nd) (hN : ∀ k ∈ n.k, SizeOf.sizeOf k < N) (hn : sizeE n < MB) :
    FT (env K gw) NoW 17 [.agg n.cs] s (.sl ((leavesE n).map Fc.cs)) s := by
  have hok : FOk (env K gw) (F0.addP 17 (gN N fun k => .sl ((leavesE k).map Fc.cs))) := F0_ok.addP (gN_ok ih)
  have hcs := Nd.cs_eq n
  rw [sizeE_eq] at hn
  have hlen := len_sizeL n.k
  have hle := leavesE_eq n
  refine FT.data (fn := Tryz.f17) hok mixed Tryz.func17 (by kernel_rfl) (by rfl) rfl rfl (by simp) rfl fun μ w => ?_
  by_cases h0 : n.k.length = 0
  · rw [if_pos h0] at hle
    rw [hle]
    have h0b : ((n.k.length : Int) == 0) = true := by simp [h0]
    repeat' (first
      | refine WP.t ?_ | refine WP.k ?_ | refine WP.e ?_ | refine Qn ?_ | refine Qr ?_ | refine Qe ?_ | refine Bn ?_ | refine Br ?_ | refine Be ?_ | refine Bx (by decide) ?_
      | (refine RS.nl ?_; refine hk _ _ ?_; clear hk k)
      | ((first | refine RS.st fun A B hA hB => ?_ | refine RQ.st fun A B hA hB => ?_); simp [hcs, h0b, onW_t, onW_f, onV_s]; first | ((first | refine hA _ _ _ ?_ ?_ | refine hA _ _ _ ?_ (by first | exact .inl rfl | exact .inr (by decide)) ?_); (focus (simp [hcs, h0b] <;> omega)); clear hA hB A B) | (refine hB ?_; clear hA hB A B) | (refine onV_if ?_ ?_; (focus (first | omega | (refine ⟨?_, ?_⟩ <;> omega))); simp only [onV_s]; (first | refine hA _ _ _ ?_ ?_ | refine hA _ _ _ ?_ (by first | exact .inl rfl | exact .inr (by decide)) ?_); (focus (simp [hcs, h0b] <;> omega)); clear hA hB A B))
      | (refine RQ.nl ?_; refine hk _ _ ?_; clear hk k)
      | refine WP.sr fun k hk => ?_ | refine WP.r fun k hk => ?_
      | refine WP.sd _ rfl fun k hk => ?_ | refine WP.d _ rfl fun k hk => ?_
      | (refine WP.cc fun A B hA hB => ?_; simp [hcs, h0b, onB_t, onB_f]; first | (refine hA ?_; clear hA hB A B) | (refine hB ?_; clear hA hB A B) | (refine onB_if (fun h => hA ?_) (fun h => hB ?_) <;> clear hA hB A B))
      | refine WP.q ?_ | refine WP.b ?_)
    exact ⟨.inr rfl, .ls (s.nx + 1) 0 1, by simp, frz_sl cFc (k := (true, 29)) (by simp [St.get_push, Fc.cs, cFc]) (by omega) (by simp)⟩
  · rw [if_neg h0] at hle
    rw [hle]
    have h0b : ((n.k.length : Int) == 0) = false := by rw [beq_eq_false_iff_ne]; omega
    repeat' (first
      | refine WP.t ?_ | refine WP.k ?_ | refine WP.e ?_ | refine Qn ?_ | refine Qr ?_ | refine Qe ?_ | refine Bn ?_ | refine Br ?_ | refine Be ?_ | refine Bx (by decide) ?_
      | (refine RS.nl ?_; refine hk _ _ ?_; clear hk k)
      | ((first | refine RS.st fun A B hA hB => ?_ | refine RQ.st fun A B hA hB => ?_); simp [hcs, h0b, onW_t, onW_f, onV_s]; first | ((first | refine hA _ _ _ ?_ ?_ | refine hA _ _ _ ?_ (by first | exact .inl rfl | exact .inr (by decide)) ?_); (focus (simp [hcs, h0b] <;> omega)); clear hA hB A B) | (refine hB ?_; clear hA hB A B) | (refine onV_if ?_ ?_; (focus (first | omega | (refine ⟨?_, ?_⟩ <;> omega))); simp only [onV_s]; (first | refine hA _ _ _ ?_ ?_ | refine hA _ _ _ ?_ (by first | exact .inl rfl | exact .inr (by decide)) ?_); (focus (simp [hcs, h0b] <;> omega)); clear hA hB A B))
      | (refine RQ.nl ?_; refine hk _ _ ?_; clear hk k)
      | refine WP.sr fun k hk => ?_ | refine WP.r fun k hk => ?_
      | refine WP.sd _ rfl fun k hk => ?_ | refine WP.d _ rfl fun k hk => ?_
      | (refine WP.cc fun A B hA hB => ?_; simp [hcs, h0b, onB_t, onB_f]; first | (refine hA ?_; clear hA hB A B) | (refine hB ?_; clear hA hB A B) | (refine onB_if (fun h => hA ?_) (fun h => hB ?_) <;> clear hA hB A B))
      | refine WP.q ?_ | refine WP.b ?_)
    refine WP_loop (fun m T s' => ∃ i : Nat, m + i = n.k.length ∧ T.get 1 = .ptr s.nx 0 ∧ T.get 4 = .int .i64 i ∧ s.nx < s'.nx ∧ s'.get s.nx = some (.var 34 [.str n.f.p, .sl (n.f.a.map V.cs), .int .i64 n.r, .sl (n.k.map Nd.cs)]) ∧
      ((i = 0 ∧ T.get 3 = .nsl) ∨ (∃ q, s.nx < q ∧ q < s'.nx ∧ T.get 3 = .ls q 0 (leavesL (n.k.take i)).length ∧ s'.get q = some (.row 2 (true, 29) ((leavesL (n.k.take i)).map Fc.cs))))) n.k.length ⟨0, by simp, by simp, by simp, by simp, by simp, .inl ⟨rfl, by simp⟩⟩ ?_
    rintro m T s' ⟨i, hmi, h1, h4, hnx, hg, hO⟩
    have m0 : ¬ s.nx = s'.nx := by omega
    by_cases hi : i < n.k.length
    · have hw : IntKind.i64.wrap ((i : Int) + 1) = (i : Int) + 1 := wrap64 (by omega) (by simp only [MB] at hn; omega)
      have hlt : ((i : Int) < (n.k.length : Int)) := by omega
      have hb : n.k[i]? = some n.k[i] := List.getElem?_eq_getElem hi
      have htk := leavesL_take hi
      have hml := leavesL_len (n.k.take (i + 1))
      have hmt := sizeL_le (l := n.k) (i + 1)
      have hm := List.getElem_mem hi
      have hsm := sizeL_mem hm
      have hne := leavesE_ne n.k[i]
      have hcall := gN_of (N := N) (v := fun k => .sl ((leavesE k).map Fc.cs)) n.k[i] (hN _ hm) (by omega)
      generalize hx : n.k[i] = x at *
      have hkcs := Nd.cs_eq x
      rw [hkcs] at hcall
      rw [htk, List.length_append] at hml
      generalize hL : leavesE x = L at *
      have hone : (L.map Fc.cs).all (fun y => y.length == 2 && y.all AV.one) = true := by
        rw [List.all_eq_true]
        intro y hy
        obtain ⟨z, _, rfl⟩ := List.mem_map.1 hy
        rfl
      have hLb : L.length * 40 ≤ 140737488355328 := big40 (by simp only [MB] at hn; omega)
      rcases hO with ⟨rfl, h3⟩ | ⟨q, hq1, hq2, h3, hq⟩
      · have htk' : leavesL (n.k.take (0 + 1)) = L := by rw [htk]; rfl
        have hLn : L.length ≠ 0 := fun e => hne (List.eq_nil_of_length_eq_zero e)
        repeat' (first
          | refine WP.t ?_ | refine WP.k ?_ | refine WP.e ?_ | refine Qn ?_ | refine Qr ?_ | refine Qe ?_ | refine Bn ?_ | refine Br ?_ | refine Be ?_ | refine Bx (by decide) ?_
          | (refine RS.nl ?_; refine hk _ _ ?_; clear hk k)
          | ((first | refine RS.st fun A B hA hB => ?_ | refine RQ.st fun A B hA hB => ?_); simp [h1, h3, h4, hnx, hg, hlt, hi, hb, hx, hw, hkcs, hcall, hone, hLb, m0, onW_t, onW_f, onV_s]; first | ((first | refine hA _ _ _ ?_ ?_ | refine hA _ _ _ ?_ (by first | exact .inl rfl | exact .inr (by decide)) ?_); (focus (simp [h1, h3, h4, hnx, hg, hlt, hi, hb, hx, hw, hkcs, hcall, hone, hLb, m0] <;> omega)); clear hA hB A B) | (refine hB ?_; clear hA hB A B) | (refine onV_if ?_ ?_; (focus (first | omega | (refine ⟨?_, ?_⟩ <;> omega))); simp only [onV_s]; (first | refine hA _ _ _ ?_ ?_ | refine hA _ _ _ ?_ (by first | exact .inl rfl | exact .inr (by decide)) ?_); (focus (simp [h1, h3, h4, hnx, hg, hlt, hi, hb, hx, hw, hkcs, hcall, hone, hLb, m0] <;> omega)); clear hA hB A B))
          | (refine RQ.nl ?_; refine hk _ _ ?_; clear hk k)
          | refine WP.sr fun k hk => ?_ | refine WP.r fun k hk => ?_
          | refine WP.sd _ rfl fun k hk => ?_ | refine WP.d _ rfl fun k hk => ?_
          | (refine WP.cc fun A B hA hB => ?_; simp [h1, h3, h4, hnx, hg, hlt, hi, hb, hx, hw, hkcs, hcall, hone, hLb, m0, onB_t, onB_f]; first | (refine hA ?_; clear hA hB A B) | (refine hB ?_; clear hA hB A B) | (refine onB_if (fun h => hA ?_) (fun h => hB ?_) <;> clear hA hB A B))
          | refine WP.q ?_ | refine WP.b ?_)
        exact ⟨m - 1, by omega, 0 + 1, by omega, by simp [h1], by simp; rfl, by simp; omega, by simp [St.get_push, m0, hg], .inr ⟨s'.nx, hnx, by simp, by rw [htk']; simp, by rw [htk']; simp [St.get_push]⟩⟩
      · have e0 : ¬ q = s'.nx := by omega
        have e4 : ¬ s.nx = q := by omega
        have l0 : q < s'.nx + 1 := by omega
        generalize hC : leavesL (n.k.take i) = C at *
        have htl : List.take C.length (C.map Fc.cs) = C.map Fc.cs := List.take_of_length_le (by simp)
        have hby : (C.length + L.length) * 40 ≤ 140737488355328 := big40 (by simp only [MB] at hn; omega)
        repeat' (first
          | refine WP.t ?_ | refine WP.k ?_ | refine WP.e ?_ | refine Qn ?_ | refine Qr ?_ | refine Qe ?_ | refine Bn ?_ | refine Br ?_ | refine Be ?_ | refine Bx (by decide) ?_
          | (refine RS.nl ?_; refine hk _ _ ?_; clear hk k)
          | ((first | refine RS.st fun A B hA hB => ?_ | refine RQ.st fun A B hA hB => ?_); simp [h1, h3, h4, hnx, hg, hlt, hi, hb, hx, hw, hkcs, hcall, hone, hLb, m0, hq, e0, e4, l0, htl, hby, onW_t, onW_f, onV_s]; first | ((first | refine hA _ _ _ ?_ ?_ | refine hA _ _ _ ?_ (by first | exact .inl rfl | exact .inr (by decide)) ?_); (focus (simp [h1, h3, h4, hnx, hg, hlt, hi, hb, hx, hw, hkcs, hcall, hone, hLb, m0, hq, e0, e4, l0, htl, hby] <;> omega)); clear hA hB A B) | (refine hB ?_; clear hA hB A B) | (refine onV_if ?_ ?_; (focus (first | omega | (refine ⟨?_, ?_⟩ <;> omega))); simp only [onV_s]; (first | refine hA _ _ _ ?_ ?_ | refine hA _ _ _ ?_ (by first | exact .inl rfl | exact .inr (by decide)) ?_); (focus (simp [h1, h3, h4, hnx, hg, hlt, hi, hb, hx, hw, hkcs, hcall, hone, hLb, m0, hq, e0, e4, l0, htl, hby] <;> omega)); clear hA hB A B))
          | (refine RQ.nl ?_; refine hk _ _ ?_; clear hk k)
          | refine WP.sr fun k hk => ?_ | refine WP.r fun k hk => ?_
          | refine WP.sd _ rfl fun k hk => ?_ | refine WP.d _ rfl fun k hk => ?_
          | (refine WP.cc fun A B hA hB => ?_; simp [h1, h3, h4, hnx, hg, hlt, hi, hb, hx, hw, hkcs, hcall, hone, hLb, m0, hq, e0, e4, l0, htl, hby, onB_t, onB_f]; first | (refine hA ?_; clear hA hB A B) | (refine hB ?_; clear hA hB A B) | (refine onB_if (fun h => hA ?_) (fun h => hB ?_) <;> clear hA hB A B))
          | refine WP.q ?_ | refine WP.b ?_)
        exact ⟨m - 1, by omega, i + 1, by omega, by simp [h1], by simp, by simp; omega, by simp [St.get_push, St.get_drop, m0, e4, hg], .inr ⟨s'.nx, hnx, by simp, by rw [htk]; simp, by rw [htk]; simp [St.get_push]⟩⟩
    · have hlt : ¬ ((i : Int) < (n.k.length : Int)) := by omega
      have he : n.k.take i = n.k := List.take_of_length_le (by omega)
      rw [he] at hO
      rcases hO with ⟨rfl, h3⟩ | ⟨q, hq1, hq2, h3, hq⟩
      · exact absurd (by omega) h0
      · skip
        repeat' (first
          | refine WP.t ?_ | refine WP.k ?_ | refine WP.e ?_ | refine Qn ?_ | refine Qr ?_ | refine Qe ?_ | refine Bn ?_ | refine Br ?_ | refine Be ?_ | refine Bx (by decide) ?_
          | (refine RS.nl ?_; refine hk _ _ ?_; clear hk k)
          | ((first | refine RS.st fun A B hA hB => ?_ | refine RQ.st fun A B hA hB => ?_); simp [h1, h3, h4, hnx, hg, hlt, onW_t, onW_f, onV_s]; first | ((first | refine hA _ _ _ ?_ ?_ | refine hA _ _ _ ?_ (by first | exact .inl rfl | exact .inr (by decide)) ?_); (focus (simp [h1, h3, h4, hnx, hg, hlt] <;> omega)); clear hA hB A B) | (refine hB ?_; clear hA hB A B) | (refine onV_if ?_ ?_; (focus (first | omega | (refine ⟨?_, ?_⟩ <;> omega))); simp only [onV_s]; (first | refine hA _ _ _ ?_ ?_ | refine hA _ _ _ ?_ (by first | exact .inl rfl | exact .inr (by decide)) ?_); (focus (simp [h1, h3, h4, hnx, hg, hlt] <;> omega)); clear hA hB A B))
          | (refine RQ.nl ?_; refine hk _ _ ?_; clear hk k)
          | refine WP.sr fun k hk => ?_ | refine WP.r fun k hk => ?_
          | refine WP.sd _ rfl fun k hk => ?_ | refine WP.d _ rfl fun k hk => ?_
          | (refine WP.cc fun A B hA hB => ?_; simp [h1, h3, h4, hnx, hg, hlt, onB_t, onB_f]; first | (refine hA ?_; clear hA hB A B) | (refine hB ?_; clear hA hB A B) | (refine onB_if (fun h => hA ?_) (fun h => hB ?_) <;> clear hA hB A B))
          | refine WP.q ?_ | refine WP.b ?_)
        exact ⟨.inr rfl, .ls q 0 _, by simp, frz_sl cFc hq (by omega) rfl⟩
theorem ft_RDeep' (n : Nd) (hn : sizeE n < MB) : FT (env K gw) NoW 14 [.agg n.cs] s (.int .i64 (deepE n)) s := byN (v := fun k => .int .i64 (deepE k)) (fun N ih n s h1 h2 => ft_RDeep ih n h1 h2) n s hn
theorem ft_RLeaves' (n : Nd) (hn : sizeE n < MB) : FT (env K gw) NoW 17 [.agg n.cs] s (.sl ((leavesE n).map Fc.cs)) s := byN (v := fun k => .sl ((leavesE k).map Fc.cs)) (fun N ih n s h1 h2 => ft_RLeaves ih n h1 h2) n s hn
end
end Go.Am
