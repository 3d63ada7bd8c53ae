/- Part of the proof: abstract values over the given model of Go (V6). Conditions: none of its own; see the statement in the seat's Rows text. -/
import Derived.Test.YtkhfjjgcafkihaaGreatAmVa
import Derived.Test.YtkhfjjgcafkihaaGreatAmRd
import Derived.Test.YtkhfjjgcafkihaaGreatAmNb
set_option linter.unusedSimpArgs false
set_option linter.unusedVariables false
set_option linter.unusedSectionVars false
namespace Go.Am
open Go.Proofs
noncomputable def gFew (xs : List AV) : Option AV :=
  match xs with
  | [.agg a, .sl b, .agg c] => match cPg.un a, unL cFc b, cNd.un c with
    | some g, some fs, some n => if okPg g = true ∧ okFs fs = true ∧ sizeE n < MB then some (.bool (fewE g fs n)) else none
    | _, _, _ => none
  | _ => none
noncomputable def gChk (xs : List AV) : Option AV :=
  match xs with
  | [.agg a, .sl b, .agg c] => match cPg.un a, unL cFc b, cNd.un c with
    | some g, some fs, some n => if okPg g = true ∧ okFs fs = true ∧ okT n = true ∧ deepE n < MB then some (.int .i64 (if provesE g fs n [] then 0 else 11)) else none
    | _, _, _ => none
  | _ => none
theorem gFew_of (g : Pg) (fs : List Fc) (n : Nd) (h1 : okPg g = true) (h2 : okFs fs = true) (h3 : sizeE n < MB) : gFew [.agg g.cs, .sl (fs.map Fc.cs), .agg n.cs] = some (.bool (fewE g fs n)) := by
  have u1 : cPg.un g.cs = some g := cPg.un_cs g
  have u2 : cNd.un n.cs = some n := cNd.un_cs n
  have u3 := unL_Fc fs
  simp [gFew, u1, u2, u3, h1, h2, h3]
theorem gChk_of (g : Pg) (fs : List Fc) (n : Nd) (h1 : okPg g = true) (h2 : okFs fs = true) (h3 : okT n = true) (h4 : deepE n < MB) : gChk [.agg g.cs, .sl (fs.map Fc.cs), .agg n.cs] = some (.int .i64 (if provesE g fs n [] then 0 else 11)) := by
  have u1 : cPg.un g.cs = some g := cPg.un_cs g
  have u2 : cNd.un n.cs = some n := cNd.un_cs n
  have u3 := unL_Fc fs
  simp [gChk, u1, u2, u3, h1, h2, h3, h4]
noncomputable def gChkR (xs : List AV) : Option AV :=
  match xs with
  | [.agg a, .sl b, .agg c] => match cPg.un a, unL cFc b, cNd.un c with
    | some g, some fs, some n => if (okPg g = true ∧ okFs fs = true ∧ okT n = true ∧ deepE n < MB) ∧ okPgS g = true ∧ okFsS fs = true ∧ okTS n = true then some (.int .i64 (if provesE g fs n [] then 0 else 11)) else none
    | _, _, _ => none
  | _ => none
theorem gChkR_of (g : Pg) (fs : List Fc) (n : Nd) (h1 : okPg g = true) (h2 : okFs fs = true) (h3 : okT n = true) (h4 : deepE n < MB) (h5 : okPgS g = true) (h6 : okFsS fs = true) (h7 : okTS n = true) : gChkR [.agg g.cs, .sl (fs.map Fc.cs), .agg n.cs] = some (.int .i64 (if provesE g fs n [] then 0 else 11)) := by
  have u1 : cPg.un g.cs = some g := cPg.un_cs g
  have u2 : cNd.un n.cs = some n := cNd.un_cs n
  have u3 := unL_Fc fs
  simp [gChkR, u1, u2, u3, h1, h2, h3, h4, h5, h6, h7]
open Classical in
noncomputable def gFcs (xs : List AV) : Option AV :=
  match xs with
  | [.sl a, .sl b] => match unL cFc a, unL cFc b with
    | some x, some y => if x.length < LIM ∧ (∀ f ∈ x, f.a.length < LIM) ∧ (∀ f ∈ y, f.a.length < LIM) then some (.bool (decide (x = y))) else none
    | _, _ => none
  | _ => none
theorem gFcs_of (x : List Fc) (h1 : x.length < LIM) (h2 : ∀ f ∈ x, f.a.length < LIM) : gFcs [.sl (x.map Fc.cs), .sl (x.map Fc.cs)] = some (.bool true) := by
  have u := unL_Fc x
  simp only [gFcs, u]
  rw [if_pos ⟨h1, h2, h2⟩]
  simp
theorem leaf_ok (n : Nd) (h : okT n = true) : ∀ f ∈ leavesE n, f.a.length < MB := by
  induction n using Nd.ind with
  | h n ih =>
    intro f hf
    have h' := okT_iff.1 h
    rw [leavesE_eq] at hf
    split at hf
    · rw [List.mem_singleton] at hf; subst hf; exact h'.1
    · unfold leavesL at hf
      obtain ⟨m, hm, rfl⟩ := List.mem_map.1 hf
      obtain ⟨hm1, hm2⟩ := List.mem_filter.1 hm
      have key : ∀ l : List Nd, m ∈ allL l → ∃ c ∈ l, m ∈ allE c := fun l => by
        induction l with
        | nil => intro h; simp [allL] at h
        | cons x l ih =>
          intro h
          simp only [allL] at h
          rcases List.mem_append.1 h with h | h
          · exact ⟨x, List.mem_cons_self .., h⟩
          · obtain ⟨c, hc, hm⟩ := ih h
            exact ⟨c, List.mem_cons_of_mem _ hc, hm⟩
      obtain ⟨c, hc, hmc⟩ := key n.k hm1
      exact ih c hc (h'.2.2 c hc) m.f (List.mem_map.2 ⟨m, List.mem_filter.2 ⟨hmc, hm2⟩, rfl⟩)
theorem leaves_len (n : Nd) : (leavesE n).length ≤ sizeE n := by
  unfold leavesE
  rw [List.length_map, ← allE_len n]
  exact List.length_filter_le _ _
section
variable {K : Nat} {gw : World} {s : St}
attribute [local simp] awanted xop zOf cz zrow aop ev T0 Slots.put Slots.set Slots.get awr WOk AV.may ofConst abinop aint isConst St.get_push St.get_put St.live AV.fit AV.cells AV.one fieldOf afieldAddr aload ofCells astore splice May eqres env_ti FinP FinZ FinW ares aresL ares1 Fns.addP Fns.add Fns.a0 Fns.a1 Fns.a2 Fns.a3 Fns.a4 abuiltin alenOk alen aindex elemOfT elemId abuildSlice afill chunks ard aappend isSS AV.isStr aminmax placesOf abuild afield aidx isStrD isStrDesc astrop aslice asliceOk abound arange anext aextract aunop aeq AV.ck avseq aveq aconv aconvert onB_t onB_f List.range_succ ti0 ti1 ti2 ti3 ti4 ti5 ti6 ti7 ti8 ti9 ti10 ti11 ti12 ti13 ti14 ti15 ti16 ti17 ti18 ti19 ti20 ti21 ti22 ti23 ti24 ti25 ti26 ti27 ti28 ti29 ti30 ti31 ti32 ti33 ti34 ti35 ti36 ti37 ti38 ti39 ti40 ti41 ti42 ti43 ti44 ti45 ti46 ti47 ti48 ti49 ti50 ti51 ti52 ti53 ti54 ti55 ti56 ti57 ti58 ti59 ti60 ti61 ti62 ti63 ti64 ti65 ti66 ti67 ti68 ti69 ti70 ti71 ti72 ti73 ti74 ti75 ti76 ti77 ti78 ti79 ti80 ti81 ti82 ti83 ti84 ti85 ti86 ti87 ti88 ti89 ti90 ti91 ti92 ti93 ti94 ti95 ti96 ti97 ti98 ti99 ti100 ti101 ti102 ti103 ti104 ti105 ti106 ti107 ti108 ti109 ti110 ti111 ti112 ti113 ti114 ti115 ti116 ti117 ti118 ti119 ti120 ti121 ti122 ti123 ti124 ti125 ti126 ti127 ti128 ti129 ti130 ti131 ti132 ti133 ti134 ti135 ti136 ti137 ti138 ti139 ti140 ti141 ti142 ti143 ti144 ti145 ti146 ti147 ti148 ti149 ti150 ti151 ti152 ti153 ti154 ti155 ti156 ti157 ti158 ti159 ti160 ti161 ti162 ti163 ti164 ti165 ti166 ti167 ti168 ti169 ti170 ti171 ti172 ti173 ti174 ti175 ti176 ti177 ti178 ti179 ti180 ti181 ti182 ti183 ti184 ti185 ti186 ti187 ti188 ti189 ti190 ti191 ti192
theorem gChk_ok (xs : List AV) (s : St) (r : AV) (h : gChk xs = some r) : FT (env K gw) NoW 7 xs s r s := by
  unfold gChk at h
  split at h
  · split at h
    · rename_i h1 h2 h3
      split at h
      · rename_i hl
        cases h
        rw [cPg.cs_un _ _ h1, unL_eq cFc _ _ h2, cNd.cs_un _ _ h3]
        exact ft_Check _ _ _ hl.1 hl.2.1 hl.2.2.1 hl.2.2.2
      · cases h
    · cases h
  · cases h
theorem gChkR_ok (xs : List AV) (s : St) (r : AV) (h : gChkR xs = some r) : FT (env K gw) NoW 10 xs s r s := by
  unfold gChkR at h
  split at h
  · split at h
    · rename_i h1 h2 h3
      split at h
      · rename_i hl
        cases h
        rw [cPg.cs_un _ _ h1, unL_eq cFc _ _ h2, cNd.cs_un _ _ h3]
        exact ft_RCheck _ _ _ hl.1.1 hl.1.2.1 hl.1.2.2.1 hl.1.2.2.2 hl.2.1 hl.2.2.1 hl.2.2.2
      · cases h
    · cases h
  · cases h
theorem gFcs_ok (xs : List AV) (s : St) (r : AV) (h : gFcs xs = some r) : FT (env K gw) NoW 15 xs s r s := by
  unfold gFcs at h
  split at h
  · split at h
    · rename_i h1 h2
      split at h
      · rename_i hl
        cases h
        rw [unL_eq cFc _ _ h1, unL_eq cFc _ _ h2]
        exact ft_RFacts _ _ hl.1 hl.2.1 hl.2.2
      · cases h
    · cases h
  · cases h
theorem gFew_ok (xs : List AV) (s : St) (r : AV) (h : gFew xs = some r) : FT (env K gw) NoW 6 xs s r s := by
  unfold gFew at h
  split at h
  · split at h
    · rename_i h1 h2 h3
      split at h
      · rename_i hl
        cases h
        rw [cPg.cs_un _ _ h1, unL_eq cFc _ _ h2, cNd.cs_un _ _ h3]
        exact ft_few _ _ _ (okPg_iff.1 hl.1).1 (fun r hr => (okRl_iff.1 ((okPg_iff.1 hl.1).2 r hr)).2) (okFs_iff.1 hl.2.1).1 hl.2.2
      · cases h
    · cases h
  · cases h
noncomputable def FXC0 : Fns := ((((((F0.a0 5 (.bool true)).addP 11 (gNd fun n => .int .i64 (sizeE n))).addP 13 (gNd fun n => .int .i64 (deepE n))).addP 16 (gNd fun n => .sl ((leavesE n).map Fc.cs))).addP 12 (gNd fun n => .int .i64 (sizeE n))).addP 14 (gNd fun n => .int .i64 (deepE n))).addP 17 (gNd fun n => .sl ((leavesE n).map Fc.cs))
theorem FXC0_ok : FOk (env K gw) FXC0 := by
  refine ((((((F0_ok.addP fun xs s r h => ?_).addP (gNd_ok fun n s h => ft_Size n h)).addP (gNd_ok fun n s h => ft_Deep' n h)).addP (gNd_ok fun n s h => ft_Leaves n h)).addP (gNd_ok fun n s h => ft_RSize' n h)).addP (gNd_ok fun n s h => ft_RDeep' n h)).addP (gNd_ok fun n s h => ft_RLeaves' n h)
  split at h
  · cases h; exact ft_shown
  · cases h
noncomputable def FXC : Fns := (((FXC0.addP 6 gFew).addP 7 gChk).addP 10 gChkR).addP 15 gFcs
theorem FXC_ok : FOk (env K gw) FXC := (((FXC0_ok.addP gFew_ok).addP gChk_ok).addP gChkR_ok).addP gFcs_ok
set_option maxRecDepth 20000 in
set_option maxHeartbeats 4000000 in
theorem ft_Checks (g : Pg) (fs : List Fc) (n : Nd) (hg : okPg g = true) (hfs : okFs fs = true) (hT : okT n = true) (hgS : okPgS g = true) (hfsS : okFsS fs = true) (hTS : okTS n = true) (hn : sizeE n < MB) :
    FT (env K gw) NoW 4 [.agg g.cs, .sl (fs.map Fc.cs), .agg n.cs] s (.bool true) s := by
  have hcs := Nd.cs_eq n
  have hgcs : g.cs = [.sl (g.decls.map Dc.cs), .sl (g.rules.map Rl.cs)] := rfl
  have hds := deep_size n
  have hll := leaves_len n
  have h1 := gFew_of g fs n hg hfs hn
  have h2 := gChk_of g fs n hg hfs hT (by omega)
  have h3 := gChkR_of g fs n hg hfs hT (by omega) hgS hfsS hTS
  have h4 := gFcs_of (leavesE n) (by simp only [MB, LIM] at *; omega) (fun f hf => by have := leaf_ok n hT f hf; simp only [MB, LIM] at *; omega)
  have e1 := fun (v : Nd → AV) => gNd_of (v := v) n hn
  rw [hcs, hgcs] at h1 h2 h3
  rw [hcs] at e1
  refine FT.pure (fn := Tryz.f4) FXC_ok mixed Tryz.func4 (by kernel_rfl) (by rfl) rfl rfl (by simp) rfl fun μ w => ?_
  cases hf : fewE g fs n with
  | false =>
    rw [hf] at h1
    repeat' (first
      | refine WP.t ?_ | refine WP.k ?_ | refine WP.e ?_ | refine Qn ?_ | refine Qr ?_ | refine Qe ?_ | refine Bn ?_ | refine Br ?_ | refine Be ?_ | refine Bx (by decide) ?_
      | (refine RS.nl ?_; refine hk _ _ ?_; clear hk k)
      | ((first | refine RS.st fun A B hA hB => ?_ | refine RQ.st fun A B hA hB => ?_); simp [hcs, hgcs, FXC, FXC0, h1, onW_t, onW_f, onV_s]; first | ((first | refine hA _ _ _ ?_ ?_ | refine hA _ _ _ ?_ (by first | exact .inl rfl | exact .inr (by decide)) ?_); (focus (simp [hcs, hgcs, FXC, FXC0, h1] <;> omega)); clear hA hB A B) | (refine hB ?_; clear hA hB A B) | (refine onV_if ?_ ?_; (focus (first | omega | (refine ⟨?_, ?_⟩ <;> omega))); simp only [onV_s]; (first | refine hA _ _ _ ?_ ?_ | refine hA _ _ _ ?_ (by first | exact .inl rfl | exact .inr (by decide)) ?_); (focus (simp [hcs, hgcs, FXC, FXC0, h1] <;> omega)); clear hA hB A B))
      | (refine RQ.nl ?_; refine hk _ _ ?_; clear hk k)
      | refine WP.sr fun k hk => ?_ | refine WP.r fun k hk => ?_
      | refine WP.sd _ rfl fun k hk => ?_ | refine WP.d _ rfl fun k hk => ?_
      | (refine WP.cc fun A B hA hB => ?_; simp [hcs, hgcs, FXC, FXC0, h1, onB_t, onB_f]; first | (refine hA ?_; clear hA hB A B) | (refine hB ?_; clear hA hB A B) | (refine onB_if (fun h => hA ?_) (fun h => hB ?_) <;> clear hA hB A B))
      | refine WP.q ?_ | refine WP.b ?_)
    simp
  | true =>
    rw [hf] at h1
    generalize (if provesE g fs n [] = true then (0 : Int) else 11) = c at *
    repeat' (first
      | refine WP.t ?_ | refine WP.k ?_ | refine WP.e ?_ | refine Qn ?_ | refine Qr ?_ | refine Qe ?_ | refine Bn ?_ | refine Br ?_ | refine Be ?_ | refine Bx (by decide) ?_
      | (refine RS.nl ?_; refine hk _ _ ?_; clear hk k)
      | ((first | refine RS.st fun A B hA hB => ?_ | refine RQ.st fun A B hA hB => ?_); simp [hcs, hgcs, FXC, FXC0, h1, h2, h3, h4, e1, onW_t, onW_f, onV_s]; first | ((first | refine hA _ _ _ ?_ ?_ | refine hA _ _ _ ?_ (by first | exact .inl rfl | exact .inr (by decide)) ?_); (focus (simp [hcs, hgcs, FXC, FXC0, h1, h2, h3, h4, e1] <;> omega)); clear hA hB A B) | (refine hB ?_; clear hA hB A B) | (refine onV_if ?_ ?_; (focus (first | omega | (refine ⟨?_, ?_⟩ <;> omega))); simp only [onV_s]; (first | refine hA _ _ _ ?_ ?_ | refine hA _ _ _ ?_ (by first | exact .inl rfl | exact .inr (by decide)) ?_); (focus (simp [hcs, hgcs, FXC, FXC0, h1, h2, h3, h4, e1] <;> omega)); clear hA hB A B))
      | (refine RQ.nl ?_; refine hk _ _ ?_; clear hk k)
      | refine WP.sr fun k hk => ?_ | refine WP.r fun k hk => ?_
      | refine WP.sd _ rfl fun k hk => ?_ | refine WP.d _ rfl fun k hk => ?_
      | (refine WP.cc fun A B hA hB => ?_; simp [hcs, hgcs, FXC, FXC0, h1, h2, h3, h4, e1, onB_t, onB_f]; first | (refine hA ?_; clear hA hB A B) | (refine hB ?_; clear hA hB A B) | (refine onB_if (fun h => hA ?_) (fun h => hB ?_) <;> clear hA hB A B))
      | refine WP.q ?_ | refine WP.b ?_)
    simp
end
end Go.Am
