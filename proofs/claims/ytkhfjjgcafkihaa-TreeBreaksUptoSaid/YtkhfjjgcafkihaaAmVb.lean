/- Part of the proof: abstract values over the given model of Go (V4). Conditions: none of its own; see the statement in the seat's Rows text. -/
import Derived.Test.YtkhfjjgcafkihaaAmVa
set_option linter.unusedSimpArgs false
set_option linter.unusedVariables false
set_option linter.unusedSectionVars false
namespace Go.Am
open Go.Proofs
/-- tree.Check of a node whose kids may lie in a row of the call's own. -/
noncomputable def gChk2 (xs : List AV) (s : St) : Option (AV × St × List Nat) :=
  match xs with
  | [a, b, .agg [p, x, r, .ls id 0 m]] => match s.get id with
    | some (.row 4 (true, 32) es) => if m = es.length then (gChk [a, b, .agg [p, x, r, .sl es]]).map fun v => (v, s, []) else none
    | _ => none
  | _ => (gChk xs).map fun v => (v, s, [])
theorem gChk_int {xs : List AV} {r : AV} (h : gChk xs = some r) : ∃ n, r = .int .i64 n := by
  unfold gChk at h
  split at h
  · split at h
    · split at h
      · cases h; exact ⟨_, rfl⟩
      · cases h
    · cases h
  · cases h
section
variable {K : Nat} {gw : World} {s : St}
attribute [local simp] awanted xop zOf cz zrow aop ev T0 Slots.put Slots.set Slots.get awr WOk AV.may ofConst abinop aint isConst St.get_push St.get_put St.live AV.fit AV.cells AV.one fieldOf afieldAddr aload ofCells astore splice May eqres env_ti FinP FinZ FinW ares aresL ares1 Fns.addP Fns.add Fns.a0 Fns.a1 Fns.a2 Fns.a3 Fns.a4 abuiltin alenOk alen aindex elemOfT elemId abuildSlice afill chunks ard aappend isSS AV.isStr aminmax placesOf abuild afield aidx isStrD isStrDesc astrop aslice asliceOk abound arange anext aextract aunop aeq AV.ck avseq aveq aconv aconvert onB_t onB_f List.range_succ ti0 ti1 ti2 ti3 ti4 ti5 ti6 ti7 ti8 ti9 ti10 ti11 ti12 ti13 ti14 ti15 ti16 ti17 ti18 ti19 ti20 ti21 ti22 ti23 ti24 ti25 ti26 ti27 ti28 ti29 ti30 ti31 ti32 ti33 ti34 ti35 ti36 ti37 ti38 ti39 ti40 ti41 ti42 ti43 ti44 ti45 ti46 ti47 ti48 ti49 ti50 ti51 ti52 ti53 ti54 ti55 ti56 ti57 ti58 ti59 ti60 ti61 ti62 ti63 ti64 ti65 ti66 ti67 ti68 ti69 ti70 ti71 ti72 ti73 ti74 ti75 ti76 ti77 ti78 ti79 ti80 ti81 ti82 ti83 ti84 ti85 ti86 ti87 ti88 ti89 ti90 ti91 ti92 ti93 ti94 ti95 ti96 ti97 ti98 ti99 ti100 ti101 ti102 ti103 ti104 ti105 ti106 ti107 ti108 ti109 ti110 ti111 ti112 ti113 ti114 ti115 ti116 ti117 ti118 ti119 ti120 ti121 ti122 ti123 ti124 ti125 ti126 ti127 ti128 ti129 ti130 ti131 ti132 ti133 ti134 ti135 ti136 ti137 ti138 ti139 ti140 ti141 ti142 ti143 ti144 ti145 ti146 ti147 ti148 ti149 ti150 ti151 ti152 ti153 ti154 ti155 ti156 ti157 ti158
noncomputable def FBk : Fns := FL0.add 8 gChk2
theorem FBk_ok : FOk (env K gw) FBk := by
  refine FL0_ok.add fun xs s r s' l h => ?_
  unfold gChk2 at h
  split at h
  · split at h
    · rename_i hs
      split at h
      · rename_i hm
        obtain ⟨v, hv, he⟩ := Option.map_eq_some_iff.1 h
        cases he
        subst hm
        rw [noW]
        obtain ⟨z, rfl⟩ := gChk_int hv
        refine FT.viewIn hs (fun μ μ' s s' w w' v hv => by cases hv; exact .int _ _) (by rfl) (fun i x y hx hy => ?_) (gChk_ok _ _ _ hv)
        match i, hx, hy with
        | 0, hx, hy => simp at hx hy; subst hx; subst hy; exact .same _
        | 1, hx, hy => simp at hx hy; subst hx; subst hy; exact .same _
        | 2, hx, hy => simp at hx hy; subst hx; subst hy; exact Vw.agg [_, _, _] []
      · cases h
    · cases h
  · obtain ⟨v, hv, he⟩ := Option.map_eq_some_iff.1 h
    cases he
    rw [noW]
    exact gChk_ok _ _ _ hv
theorem FBk_shown (s2 : St) : FBk 6 [] s2 = some (.bool true, s2, []) := by simp [FBk, FL0]
theorem FBk_few (g : Pg) (fs : List Fc) (n : Nd) (h1 : okPg g = true) (h2 : okFs fs = true) (h3 : sizeE n < MB) (s2 : St) : FBk 7 [.agg g.cs, .sl (fs.map Fc.cs), .agg n.cs] s2 = some (.bool (fewE g fs n), s2, []) := by
  have := gFew_of g fs n h1 h2 h3
  simp [FBk, FL0, this]
theorem FBk_chk (g : Pg) (fs : List Fc) (n : Nd) (h1 : okPg g = true) (h2 : okFs fs = true) (h3 : okT n = true) (h4 : deepE n < MB) (s2 : St) : FBk 8 [.agg g.cs, .sl (fs.map Fc.cs), .agg n.cs] s2 = some (.int .i64 (if provesE g fs n [] then 0 else 11), s2, []) := by
  have := gChk_of g fs n h1 h2 h3 h4
  rw [Nd.cs_eq] at this ⊢
  simp [FBk, gChk2, this]
/-- .. the kids in a row. -/
theorem FBk_row (g : Pg) (fs : List Fc) (f : Fc) (r : Int) (l : List Nd) (h1 : okPg g = true) (h2 : okFs fs = true) (h3 : okT (.mk f r l) = true) (h4 : deepE (.mk f r l) < MB) (hp : provesE g fs (.mk f r l) [] = false)
    (s2 : St) (id m : Nat) (hm : m = l.length) (hs : s2.get id = some (.row 4 (true, 32) (l.map Nd.cs))) : FBk 8 [.agg g.cs, .sl (fs.map Fc.cs), .agg [.str f.p, .sl (f.a.map V.cs), .int .i64 r, .ls id 0 m]] s2 = some (.int .i64 11, s2, []) := by
  have := gChk_of g fs _ h1 h2 h3 h4
  rw [Nd.cs_eq, hp] at this
  simp only [Nd.f, Nd.r, Nd.k] at this
  simp [FBk, gChk2, hs, hm, this]
theorem FBk_data (g : Pg) (fs : List Fc) (f : Fc) (r : Int) (l : List Nd) (h1 : okPg g = true) (h2 : okFs fs = true) (h3 : okT (.mk f r l) = true) (h4 : deepE (.mk f r l) < MB) (hp : provesE g fs (.mk f r l) [] = false)
    (s2 : St) : FBk 8 [.agg g.cs, .sl (fs.map Fc.cs), .agg [.str f.p, .sl (f.a.map V.cs), .int .i64 r, .sl (l.map Nd.cs)]] s2 = some (.int .i64 11, s2, []) := by
  have := FBk_chk g fs _ h1 h2 h3 h4 s2
  rw [Nd.cs_eq, hp] at this
  simpa [Nd.f, Nd.r, Nd.k] using this
set_option maxRecDepth 20000 in
set_option maxHeartbeats 8000000 in
theorem ft_Breaks (g : Pg) (fs : List Fc) (n : Nd) (hg : okPg g = true) (hfs : okFs fs = true) (hT : okT n = true) (hn : sizeE n < 8388608) :
    FT (env K gw) NoW 4 [.agg g.cs, .sl (fs.map Fc.cs), .agg n.cs] s (.bool true) s := by
  have hcs := Nd.cs_eq n
  have hgcs : g.cs = [.sl (g.decls.map Dc.cs), .sl (g.rules.map Rl.cs)] := rfl
  have hds := deep_size n
  have hsh := FBk_shown
  have hfw := FBk_few g fs n hg hfs (by simp only [MB]; omega)
  have hck := FBk_chk g fs n hg hfs hT (by simp only [MB]; omega)
  rw [hcs, hgcs] at hfw hck
  refine FT.pure (fn := Try.f4) FBk_ok mixed Try.func4 (by kernel_rfl) (by rfl) rfl rfl (by simp) rfl fun μ w => ?_
  cases hf : fewE g fs n with
  | false =>
    rw [hf] at hfw
    repeat' (first
      | refine WP.t ?_ | refine WP.k ?_ | refine WP.e ?_ | refine Qn ?_ | refine Qr ?_ | refine Qe ?_ | refine Bn ?_ | refine Br ?_ | refine Be ?_ | refine Bx (by decide) ?_
      | (refine RS.nl ?_; refine hk _ _ ?_; clear hk k)
      | ((first | refine RS.st fun A B hA hB => ?_ | refine RQ.st fun A B hA hB => ?_); simp [hcs, hgcs, hsh, hfw, onW_t, onW_f, onV_s]; first | ((first | refine hA _ _ _ ?_ ?_ | refine hA _ _ _ ?_ (by first | exact .inl rfl | exact .inr (by decide)) ?_); (focus (simp [hcs, hgcs, hsh, hfw] <;> omega)); clear hA hB A B) | (refine hB ?_; clear hA hB A B) | (refine onV_if ?_ ?_; (focus (first | omega | (refine ⟨?_, ?_⟩ <;> omega))); simp only [onV_s]; (first | refine hA _ _ _ ?_ ?_ | refine hA _ _ _ ?_ (by first | exact .inl rfl | exact .inr (by decide)) ?_); (focus (simp [hcs, hgcs, hsh, hfw] <;> omega)); clear hA hB A B))
      | (refine RQ.nl ?_; refine hk _ _ ?_; clear hk k)
      | refine WP.sr fun k hk => ?_ | refine WP.r fun k hk => ?_
      | refine WP.sd _ rfl fun k hk => ?_ | refine WP.d _ rfl fun k hk => ?_
      | (refine WP.cc fun A B hA hB => ?_; simp [hcs, hgcs, hsh, hfw, onB_t, onB_f]; first | (refine hA ?_; clear hA hB A B) | (refine hB ?_; clear hA hB A B) | (refine onB_if (fun h => hA ?_) (fun h => hB ?_) <;> clear hA hB A B))
      | refine WP.q ?_ | refine WP.b ?_)
    simp
  | true =>
    rw [hf] at hfw
    cases hp : provesE g fs n [] with
    | false =>
      rw [hp] at hck
      repeat' (first
        | refine WP.t ?_ | refine WP.k ?_ | refine WP.e ?_ | refine Qn ?_ | refine Qr ?_ | refine Qe ?_ | refine Bn ?_ | refine Br ?_ | refine Be ?_ | refine Bx (by decide) ?_
        | (refine RS.nl ?_; refine hk _ _ ?_; clear hk k)
        | ((first | refine RS.st fun A B hA hB => ?_ | refine RQ.st fun A B hA hB => ?_); simp [hcs, hgcs, hsh, hfw, hck, onW_t, onW_f, onV_s]; first | ((first | refine hA _ _ _ ?_ ?_ | refine hA _ _ _ ?_ (by first | exact .inl rfl | exact .inr (by decide)) ?_); (focus (simp [hcs, hgcs, hsh, hfw, hck] <;> omega)); clear hA hB A B) | (refine hB ?_; clear hA hB A B) | (refine onV_if ?_ ?_; (focus (first | omega | (refine ⟨?_, ?_⟩ <;> omega))); simp only [onV_s]; (first | refine hA _ _ _ ?_ ?_ | refine hA _ _ _ ?_ (by first | exact .inl rfl | exact .inr (by decide)) ?_); (focus (simp [hcs, hgcs, hsh, hfw, hck] <;> omega)); clear hA hB A B))
        | (refine RQ.nl ?_; refine hk _ _ ?_; clear hk k)
        | refine WP.sr fun k hk => ?_ | refine WP.r fun k hk => ?_
        | refine WP.sd _ rfl fun k hk => ?_ | refine WP.d _ rfl fun k hk => ?_
        | (refine WP.cc fun A B hA hB => ?_; simp [hcs, hgcs, hsh, hfw, hck, onB_t, onB_f]; first | (refine hA ?_; clear hA hB A B) | (refine hB ?_; clear hA hB A B) | (refine onB_if (fun h => hA ?_) (fun h => hB ?_) <;> clear hA hB A B))
        | refine WP.q ?_ | refine WP.b ?_)
      simp
    | true =>
      rw [hp] at hck
      obtain ⟨f, r, l⟩ := n
      simp only [Nd.f, Nd.r, Nd.k] at hcs
      have hkl := len_sizeL l
      have hone : (l.map Nd.cs).all (fun y => y.length == 4 && y.all AV.one) = true := by
        rw [List.all_eq_true]
        intro y hy
        obtain ⟨z, _, rfl⟩ := List.mem_map.1 hy
        rw [Nd.cs_eq]; rfl
      have hby : l.length * 72 ≤ 140737488355328 := by rw [sizeE_eq] at hn; simp only [Nd.k] at hn; omega
      have hby2 : (l.length + 1) * 72 ≤ 140737488355328 := by rw [sizeE_eq] at hn; simp only [Nd.k] at hn; omega
      simp only [Nd.f, Nd.r, Nd.k] at hfw hck
      have hb1 : ∀ m, Below m (.sl (f.a.map V.cs)) := fun m => below_sl' cV m _
      have hb2 : ∀ m, Below m (.sl (l.map Nd.cs)) := fun m => below_sl' cNd m _
      generalize hs1 : (((s.push (.var 25 [.sl (g.decls.map Dc.cs), .sl (g.rules.map Rl.cs)])).push (.var 32 [.str f.p, .sl (f.a.map V.cs), .int .i64 r, .sl (l.map Nd.cs)])).push (.var 32 [.str [], .nsl, .int .i64 0, .nsl])).put (s.nx + 1 + 1) (.var 32 [.str f.p, .sl (f.a.map V.cs), .int .i64 r, .sl (l.map Nd.cs)]) = s1
      have h1n : s1.nx = s.nx + 1 + 1 + 1 := by rw [← hs1]; simp
      have g10 : s1.get s.nx = some (.var 25 [.sl (g.decls.map Dc.cs), .sl (g.rules.map Rl.cs)]) := by rw [← hs1]; simp [St.get_push]
      have g11 : s1.get (s.nx + 1) = some (.var 32 [.str f.p, .sl (f.a.map V.cs), .int .i64 r, .sl (l.map Nd.cs)]) := by rw [← hs1]; simp [St.get_push]
      have g12 : s1.get (s.nx + 1 + 1) = some (.var 32 [.str f.p, .sl (f.a.map V.cs), .int .i64 r, .sl (l.map Nd.cs)]) := by rw [← hs1]; simp [St.get_push]
      generalize hs2 : ((s1.push (.row 4 (true, 32) [])).drop (s.nx + 1 + 1 + 1)).push (.row 4 (true, 32) (l.map Nd.cs)) = s2
      have h2n : s2.nx = s.nx + 1 + 1 + 1 + 1 + 1 := by rw [← hs2]; simp [h1n]
      have lo2 : ∀ j, j < s.nx + 1 + 1 + 1 → s2.get j = s1.get j := fun j hj => by
        rw [← hs2, St.get_push, if_neg (by simp [h1n]; omega), St.get_drop, if_neg (by omega), St.get_push, if_neg (by omega)]
      have g20 := (lo2 s.nx (by omega)).trans g10
      have g21 := (lo2 (s.nx + 1) (by omega)).trans g11
      have g22 := (lo2 (s.nx + 1 + 1) (by omega)).trans g12
      have g24 : s2.get (s.nx + 1 + 1 + 1 + 1) = some (.row 4 (true, 32) (l.map Nd.cs)) := by rw [← hs2, St.get_push, if_pos (by simp [h1n])]
      generalize hs3 : ((s2.drop (s.nx + 1 + 1 + 1 + 1)).push (.row 4 (true, 32) (l.map Nd.cs ++ [[.str f.p, .sl (f.a.map V.cs), .int .i64 r, .sl (l.map Nd.cs)]]))).put (s.nx + 1 + 1) (.var 32 [.str f.p, .sl (f.a.map V.cs), .int .i64 r, .ls (s.nx + 1 + 1 + 1 + 1 + 1) 0 (l.length + 1)]) = s3
      have h3n : s3.nx = s.nx + 1 + 1 + 1 + 1 + 1 + 1 := by rw [← hs3]; simp [h2n]
      have lo3 : ∀ j, j < s.nx + 1 + 1 → s3.get j = s2.get j := fun j hj => by
        rw [← hs3, St.get_put, if_neg (by omega), St.get_push, if_neg (by simp [h2n]; omega), St.get_drop, if_neg (by omega)]
      have g30 := (lo3 s.nx (by omega)).trans g20
      have g31 := (lo3 (s.nx + 1) (by omega)).trans g21
      have g32 : s3.get (s.nx + 1 + 1) = some (.var 32 [.str f.p, .sl (f.a.map V.cs), .int .i64 r, .ls (s.nx + 1 + 1 + 1 + 1 + 1) 0 (l.length + 1)]) := by rw [← hs3]; exact St.get_put_same _ _ _
      have g35 : s3.get (s.nx + 1 + 1 + 1 + 1 + 1) = some (.row 4 (true, 32) (l.map Nd.cs ++ [[.str f.p, .sl (f.a.map V.cs), .int .i64 r, .sl (l.map Nd.cs)]])) := by
        rw [← hs3, St.get_put, if_neg (by omega), St.get_push, if_pos (by simp [h2n])]
      clear lo3 lo2
      generalize hs4 : (((((s3.push (.var 32 [.str [], .nsl, .int .i64 0, .nsl])).put (s.nx + 1 + 1 + 1 + 1 + 1 + 1) (.var 32 [.str f.p, .sl (f.a.map V.cs), .int .i64 r, .sl (l.map Nd.cs)])).put (s.nx + 1 + 1 + 1 + 1 + 1 + 1) (.var 32 [.str f.p, .sl (f.a.map V.cs), .int .i64 (g.rules.length : Int), .sl (l.map Nd.cs)])).push (.var 32 [.str [], .nsl, .int .i64 0, .nsl])).put (s.nx + 1 + 1 + 1 + 1 + 1 + 1 + 1) (.var 32 [.str f.p, .sl (f.a.map V.cs), .int .i64 r, .sl (l.map Nd.cs)])).put (s.nx + 1 + 1 + 1 + 1 + 1 + 1 + 1) (.var 32 [.str f.p, .sl (f.a.map V.cs), .int .i64 (-1), .sl (l.map Nd.cs)]) = s4
      have h4n : s4.nx = s.nx + 1 + 1 + 1 + 1 + 1 + 1 + 1 + 1 := by rw [← hs4]; simp [h3n]
      have lo4 : ∀ j, j < s.nx + 1 + 1 + 1 + 1 + 1 + 1 → s4.get j = s3.get j := fun j hj => by
        rw [← hs4, St.get_put, if_neg (by omega), St.get_put, if_neg (by omega), St.get_push, if_neg (by simp [h3n]; omega), St.get_put, if_neg (by omega), St.get_put, if_neg (by omega), St.get_push, if_neg (by simp [h3n]; omega)]
      have g40 := (lo4 s.nx (by omega)).trans g30
      have g41 := (lo4 (s.nx + 1) (by omega)).trans g31
      have g42 := (lo4 (s.nx + 1 + 1) (by omega)).trans g32
      have g45 := (lo4 (s.nx + 1 + 1 + 1 + 1 + 1) (by omega)).trans g35
      have g46 : s4.get (s.nx + 1 + 1 + 1 + 1 + 1 + 1) = some (.var 32 [.str f.p, .sl (f.a.map V.cs), .int .i64 (g.rules.length : Int), .sl (l.map Nd.cs)]) := by
        rw [← hs4, St.get_put, if_neg (by omega), St.get_put, if_neg (by omega), St.get_push, if_neg (by simp [h3n]), St.get_put_same]
      have g47 : s4.get (s.nx + 1 + 1 + 1 + 1 + 1 + 1 + 1) = some (.var 32 [.str f.p, .sl (f.a.map V.cs), .int .i64 (-1), .sl (l.map Nd.cs)]) := by rw [← hs4]; exact St.get_put_same _ _ _
      have hdeep : deepE (.mk f r l) < 8388608 := by omega
      rw [deepE_eq] at hdeep
      simp only [Nd.k] at hdeep
      have hTk := okT_iff.1 hT
      simp only [Nd.f, Nd.k] at hTk
      have dep : ∀ (r2 : Int) (l2 : List Nd), deepL l2 ≤ deepL l + 1 → deepE (.mk f r2 l2) < MB := fun r2 l2 h => by rw [deepE_eq]; simp only [Nd.k, MB]; omega
      have okk : ∀ (r2 : Int) (l2 : List Nd), l2.length < MB → (∀ k ∈ l2, okT k = true) → okT (.mk f r2 l2) = true := fun r2 l2 h1 h2 => okT_iff.2 ⟨hTk.1, h1, h2⟩
      have hlen : l.length + 1 < MB := by rw [sizeE_eq] at hn; simp only [Nd.k, MB] at *; omega
      have hN : ∀ s5, FBk 8 [.agg [.sl (g.decls.map Dc.cs), .sl (g.rules.map Rl.cs)], .sl (fs.map Fc.cs), .agg [.str f.p, .sl (f.a.map V.cs), .int .i64 (g.rules.length : Int), .sl (l.map Nd.cs)]] s5 = some (.int .i64 11, s5, []) := FBk_data g fs f _ l hg hfs (okk _ l hTk.2.1 hTk.2.2) (dep _ l (by omega)) (breaks_rule (.inr (Int.le_refl _)))
      have hL : ∀ s5, FBk 8 [.agg [.sl (g.decls.map Dc.cs), .sl (g.rules.map Rl.cs)], .sl (fs.map Fc.cs), .agg [.str f.p, .sl (f.a.map V.cs), .int .i64 (-1), .sl (l.map Nd.cs)]] s5 = some (.int .i64 11, s5, []) := FBk_data g fs f _ l hg hfs (okk _ l hTk.2.1 hTk.2.2) (dep _ l (by omega)) (breaks_rule (.inl (by decide)))
      have hdn : ∀ (l2 : List Nd), deepL (l2 ++ [.mk f r l]) = max (deepL l2) (deepL l + 1) := fun l2 => by
        induction l2 with
        | nil => simp [deepL, deepE]
        | cons y l2 ih => simp only [List.cons_append, deepL, ih]; omega
      have hM : ∀ s5 : St, s5.get (s.nx + 1 + 1 + 1 + 1 + 1) = some (.row 4 (true, 32) (l.map Nd.cs ++ [[.str f.p, .sl (f.a.map V.cs), .int .i64 r, .sl (l.map Nd.cs)]])) → FBk 8 [.agg [.sl (g.decls.map Dc.cs), .sl (g.rules.map Rl.cs)], .sl (fs.map Fc.cs), .agg [.str f.p, .sl (f.a.map V.cs), .int .i64 r, .ls (s.nx + 1 + 1 + 1 + 1 + 1) 0 (l.length + 1)]] s5 = some (.int .i64 11, s5, []) := fun s5 h5 =>
        FBk_row g fs f r (l ++ [.mk f r l]) hg hfs (okk _ _ (by simpa using hlen) fun k hk => by
          rcases List.mem_append.1 hk with hk | hk
          · exact hTk.2.2 k hk
          · rw [List.mem_singleton] at hk; subst hk; exact hT) (dep _ _ (by rw [hdn]; omega)) (breaks_kids hp (by simp)) s5 _ _ (by simp) (by rw [h5]; simp [hcs])
      clear lo4
      rcases l with _ | ⟨x, l'⟩
      · have hM4 := hM s4 g45
        clear hM hdn okk dep
        simp only [List.map_nil, List.length_nil, List.nil_append, Nat.zero_add] at *
        repeat' (first
          | (refine WP.swb 2 6 (by decide) (by decide) (Keep s1 [s.nx + 1]) fun k hk => ?_)
          | refine WP.t ?_ | refine WP.k ?_ | refine WP.e ?_ | refine Qn ?_ | refine Qr ?_ | refine Qe ?_ | refine Bn ?_ | refine Br ?_ | refine Be ?_ | refine Bx (by decide) ?_
          | (refine RS.nl ?_; refine hk _ _ ?_; clear hk k)
          | ((first | refine RS.st fun A B hA hB => ?_ | refine RQ.st fun A B hA hB => ?_); simp [hcs, hgcs, hsh, hfw, hck, hone, hby, hby2, hs1, h1n, g10, g11, g12, hs2, h2n, g20, g21, g22, g24, hs3, h3n, g30, g31, g32, g35, hs4, h4n, g40, g41, g42, g45, g46, g47, hN, hL, hM4, hb1, hb2, St.get_drop, onW_t, onW_f, onV_s]; first | ((first | refine hA _ _ _ ?_ ?_ | refine hA _ _ _ ?_ (by first | exact .inl rfl | exact .inr (by decide)) ?_); (focus (simp [hcs, hgcs, hsh, hfw, hck, hone, hby, hby2, hs1, h1n, g10, g11, g12, hs2, h2n, g20, g21, g22, g24, hs3, h3n, g30, g31, g32, g35, hs4, h4n, g40, g41, g42, g45, g46, g47, hN, hL, hM4, hb1, hb2, St.get_drop] <;> omega)); clear hA hB A B) | (refine hB ?_; clear hA hB A B) | (refine onV_if ?_ ?_; (focus (first | omega | (refine ⟨?_, ?_⟩ <;> omega))); simp only [onV_s]; (first | refine hA _ _ _ ?_ ?_ | refine hA _ _ _ ?_ (by first | exact .inl rfl | exact .inr (by decide)) ?_); (focus (simp [hcs, hgcs, hsh, hfw, hck, hone, hby, hby2, hs1, h1n, g10, g11, g12, hs2, h2n, g20, g21, g22, g24, hs3, h3n, g30, g31, g32, g35, hs4, h4n, g40, g41, g42, g45, g46, g47, hN, hL, hM4, hb1, hb2, St.get_drop] <;> omega)); clear hA hB A B))
          | (refine RQ.nl ?_; refine hk _ _ ?_; clear hk k)
          | (refine RW.nl ?_ ?_; (focus (first | exact .inl (by decide) | (refine .inr ?_; (simp [hcs, hgcs, hsh, hfw, hck, hone, hby, hby2, hs1, h1n, g10, g11, g12, hs2, h2n, g20, g21, g22, g24, hs3, h3n, g30, g31, g32, g35, hs4, h4n, g40, g41, g42, g45, g46, g47, hN, hL, hM4, hb1, hb2, St.get_drop] <;> omega)))); refine hk _ _ ?_; clear hk k)
          | (refine RW.st ?_ fun A B hA hB => ?_; (focus (first | exact .inl (by decide) | (refine .inr ?_; (simp [hcs, hgcs, hsh, hfw, hck, hone, hby, hby2, hs1, h1n, g10, g11, g12, hs2, h2n, g20, g21, g22, g24, hs3, h3n, g30, g31, g32, g35, hs4, h4n, g40, g41, g42, g45, g46, g47, hN, hL, hM4, hb1, hb2, St.get_drop] <;> omega)))); simp [hcs, hgcs, hsh, hfw, hck, hone, hby, hby2, hs1, h1n, g10, g11, g12, hs2, h2n, g20, g21, g22, g24, hs3, h3n, g30, g31, g32, g35, hs4, h4n, g40, g41, g42, g45, g46, g47, hN, hL, hM4, hb1, hb2, St.get_drop, onW_t, onW_f, onV_s]; first | (refine hA _ _ _ ?_ ?_ ?_ ?_; (focus (simp [hcs, hgcs, hsh, hfw, hck, hone, hby, hby2, hs1, h1n, g10, g11, g12, hs2, h2n, g20, g21, g22, g24, hs3, h3n, g30, g31, g32, g35, hs4, h4n, g40, g41, g42, g45, g46, g47, hN, hL, hM4, hb1, hb2, St.get_drop] <;> omega)); (focus (first | exact .inl (by decide) | exact .inr (.inl rfl) | exact .inr (.inr rfl))); (focus (first | exact .inl (by decide) | exact .inr (.inl (by decide)) | (refine .inr (.inr fun s2 hs2 => ?_); have hs2n := hs2.nx; simp only [Keep_cons, Keep_nil] at hs2; simp [hcs, hgcs, hsh, hfw, hck, hone, hby, hby2, hs1, h1n, g10, g11, g12, hs2, h2n, g20, g21, g22, g24, hs3, h3n, g30, g31, g32, g35, hs4, h4n, g40, g41, g42, g45, g46, g47, hN, hL, hM4, hb1, hb2, St.get_drop, hs2, hs2n]; done))); clear hA hB A B) | (refine hB ?_; clear hA hB A B))
          | refine WP.sr fun k hk => ?_ | refine WP.r fun k hk => ?_
          | (refine WP.swK [] ?_ fun k hk => ?_; (focus (decide))) | (refine WP.wK [] ?_ fun k hk => ?_; (focus (decide))) | refine WP.sd _ rfl fun k hk => ?_ | refine WP.d _ rfl fun k hk => ?_
          | (refine WP.cc fun A B hA hB => ?_; simp [hcs, hgcs, hsh, hfw, hck, hone, hby, hby2, hs1, h1n, g10, g11, g12, hs2, h2n, g20, g21, g22, g24, hs3, h3n, g30, g31, g32, g35, hs4, h4n, g40, g41, g42, g45, g46, g47, hN, hL, hM4, hb1, hb2, St.get_drop, onB_t, onB_f]; first | (refine hA ?_; clear hA hB A B) | (refine hB ?_; clear hA hB A B) | (refine onB_if (fun h => hA ?_) (fun h => hB ?_) <;> clear hA hB A B))
          | refine WP.q ?_ | refine WP.b ?_)
        simp
      · have hW : ∀ s5, FBk 8 [.agg [.sl (g.decls.map Dc.cs), .sl (g.rules.map Rl.cs)], .sl (fs.map Fc.cs), .agg [.str f.p, .sl (f.a.map V.cs), .int .i64 r, .sl (l'.map Nd.cs)]] s5 = some (.int .i64 11, s5, []) := FBk_data g fs f r l' hg hfs (okk _ l' (by simp only [List.length_cons] at hlen; omega) fun k hk => hTk.2.2 k (List.mem_cons_of_mem _ hk)) (dep _ l' (by simp only [deepL]; omega)) (breaks_kids hp (by simp))
        have hS : ∀ (s5 : St) (m : Nat), m = l'.length + 1 → s5.get (s.nx + 1 + 1 + 1 + 1 + 1 + 1 + 1 + 1 + 1 + 1 + 1) = some (.row 4 (true, 32) ([.str f.p, .sl (f.a.map V.cs), .int .i64 r, .sl (x.cs :: l'.map Nd.cs)] :: l'.map Nd.cs)) → FBk 8 [.agg [.sl (g.decls.map Dc.cs), .sl (g.rules.map Rl.cs)], .sl (fs.map Fc.cs), .agg [.str f.p, .sl (f.a.map V.cs), .int .i64 r, .ls (s.nx + 1 + 1 + 1 + 1 + 1 + 1 + 1 + 1 + 1 + 1 + 1) 0 m]] s5 = some (.int .i64 11, s5, []) := fun s5 m hm h5 =>
          FBk_row g fs f r (.mk f r (x :: l') :: l') hg hfs (okk _ _ (by simpa using hTk.2.1) fun k hk => by
            rcases List.mem_cons.1 hk with hk | hk
            · subst hk; exact hT
            · exact hTk.2.2 k (List.mem_cons_of_mem _ hk)) (dep _ _ (by simp only [deepL, deepE]; omega)) (breaks_self rfl) s5 _ _ (by simp [hm]) (by rw [h5]; simp [hcs])
        have hM4 := hM s4 g45
        have hM' := hM
        clear hM hdn okk dep
        simp only [List.map_cons, List.length_cons, List.cons_append] at *
        have hby3 : (1 + l'.length) * 72 ≤ 140737488355328 := by omega
        have hone3 : (l'.map Nd.cs).all (fun y => y.length == 4 && y.all AV.one) = true := by
          simp only [List.all_cons, Bool.and_eq_true] at hone; exact hone.2
        have hb3 : ∀ m, Below m (.sl (l'.map Nd.cs)) := fun m => below_sl' cNd m _
        have h1le : (1 : Int) ≤ (l'.length : Int) + 1 := by omega
        have htk : List.take l'.length (l'.map Nd.cs) = l'.map Nd.cs := List.take_of_length_le (by simp)
        generalize hs5 : ((s4.push (.var 32 [.str [], .nsl, .int .i64 0, .nsl])).put (s.nx + 1 + 1 + 1 + 1 + 1 + 1 + 1 + 1) (.var 32 [.str f.p, .sl (f.a.map V.cs), .int .i64 r, .sl (x.cs :: l'.map Nd.cs)])).put (s.nx + 1 + 1 + 1 + 1 + 1 + 1 + 1 + 1) (.var 32 [.str f.p, .sl (f.a.map V.cs), .int .i64 r, .sl (l'.map Nd.cs)]) = s5
        have h5n : s5.nx = s.nx + 1 + 1 + 1 + 1 + 1 + 1 + 1 + 1 + 1 := by rw [← hs5]; simp [h4n]
        have lo5 : ∀ j, j < s.nx + 1 + 1 + 1 + 1 + 1 + 1 + 1 + 1 → s5.get j = s4.get j := fun j hj => by
          rw [← hs5, St.get_put, if_neg (by omega), St.get_put, if_neg (by omega), St.get_push, if_neg (by simp [h4n]; omega)]
        generalize hs6 : (s5.push (.var 32 [.str [], .nsl, .int .i64 0, .nsl])).put (s.nx + 1 + 1 + 1 + 1 + 1 + 1 + 1 + 1 + 1) (.var 32 [.str f.p, .sl (f.a.map V.cs), .int .i64 r, .sl (x.cs :: l'.map Nd.cs)]) = s6
        have h6n : s6.nx = s.nx + 1 + 1 + 1 + 1 + 1 + 1 + 1 + 1 + 1 + 1 := by rw [← hs6]; simp [h5n]
        have lo6 : ∀ j, j < s.nx + 1 + 1 + 1 + 1 + 1 + 1 + 1 + 1 + 1 → s6.get j = s5.get j := fun j hj => by
          rw [← hs6, St.get_put, if_neg (by omega), St.get_push, if_neg (by simp [h5n]; omega)]
        have g50 := (lo5 s.nx (by omega)).trans g40
        have g51 := (lo5 (s.nx + 1) (by omega)).trans g41
        have g58 : s5.get (s.nx + 1 + 1 + 1 + 1 + 1 + 1 + 1 + 1) = some (.var 32 [.str f.p, .sl (f.a.map V.cs), .int .i64 r, .sl (l'.map Nd.cs)]) := by rw [← hs5]; exact St.get_put_same _ _ _
        have g60 := (lo6 s.nx (by omega)).trans g50
        have g61 := (lo6 (s.nx + 1) (by omega)).trans g51
        have g62 := (lo6 (s.nx + 1 + 1) (by omega)).trans ((lo5 (s.nx + 1 + 1) (by omega)).trans g42)
        have g65 := (lo6 (s.nx + 1 + 1 + 1 + 1 + 1) (by omega)).trans ((lo5 (s.nx + 1 + 1 + 1 + 1 + 1) (by omega)).trans g45)
        have g66 := (lo6 (s.nx + 1 + 1 + 1 + 1 + 1 + 1) (by omega)).trans ((lo5 (s.nx + 1 + 1 + 1 + 1 + 1 + 1) (by omega)).trans g46)
        have g67 := (lo6 (s.nx + 1 + 1 + 1 + 1 + 1 + 1 + 1) (by omega)).trans ((lo5 (s.nx + 1 + 1 + 1 + 1 + 1 + 1 + 1) (by omega)).trans g47)
        have g68 := (lo6 (s.nx + 1 + 1 + 1 + 1 + 1 + 1 + 1 + 1) (by omega)).trans g58
        have g69 : s6.get (s.nx + 1 + 1 + 1 + 1 + 1 + 1 + 1 + 1 + 1) = some (.var 32 [.str f.p, .sl (f.a.map V.cs), .int .i64 r, .sl (x.cs :: l'.map Nd.cs)]) := by rw [← hs6]; exact St.get_put_same _ _ _
        clear lo5 lo6
        generalize hs7 : (((s6.push (.row 4 (true, 32) [[.str f.p, .sl (f.a.map V.cs), .int .i64 r, .sl (x.cs :: l'.map Nd.cs)]])).drop (s.nx + 1 + 1 + 1 + 1 + 1 + 1 + 1 + 1 + 1 + 1)).push (.row 4 (true, 32) ([.str f.p, .sl (f.a.map V.cs), .int .i64 r, .sl (x.cs :: l'.map Nd.cs)] :: l'.map Nd.cs))).put (s.nx + 1 + 1 + 1 + 1 + 1 + 1 + 1 + 1 + 1) (.var 32 [.str f.p, .sl (f.a.map V.cs), .int .i64 r, .ls (s.nx + 1 + 1 + 1 + 1 + 1 + 1 + 1 + 1 + 1 + 1 + 1) 0 (1 + l'.length)]) = s7
        have h7n : s7.nx = s.nx + 1 + 1 + 1 + 1 + 1 + 1 + 1 + 1 + 1 + 1 + 1 + 1 := by rw [← hs7]; simp [h6n]
        have lo7 : ∀ j, j < s.nx + 1 + 1 + 1 + 1 + 1 + 1 + 1 + 1 + 1 → s7.get j = s6.get j := fun j hj => by
          rw [← hs7, St.get_put, if_neg (by omega), St.get_push, if_neg (by simp [h6n]; omega), St.get_drop, if_neg (by omega), St.get_push, if_neg (by omega)]
        have g70 := (lo7 s.nx (by omega)).trans g60
        have g71 := (lo7 (s.nx + 1) (by omega)).trans g61
        have g72 := (lo7 (s.nx + 1 + 1) (by omega)).trans g62
        have g75 := (lo7 (s.nx + 1 + 1 + 1 + 1 + 1) (by omega)).trans g65
        have g76 := (lo7 (s.nx + 1 + 1 + 1 + 1 + 1 + 1) (by omega)).trans g66
        have g77 := (lo7 (s.nx + 1 + 1 + 1 + 1 + 1 + 1 + 1) (by omega)).trans g67
        have g78 := (lo7 (s.nx + 1 + 1 + 1 + 1 + 1 + 1 + 1 + 1) (by omega)).trans g68
        have g79 : s7.get (s.nx + 1 + 1 + 1 + 1 + 1 + 1 + 1 + 1 + 1) = some (.var 32 [.str f.p, .sl (f.a.map V.cs), .int .i64 r, .ls (s.nx + 1 + 1 + 1 + 1 + 1 + 1 + 1 + 1 + 1 + 1 + 1) 0 (1 + l'.length)]) := by rw [← hs7]; exact St.get_put_same _ _ _
        have g711 : s7.get (s.nx + 1 + 1 + 1 + 1 + 1 + 1 + 1 + 1 + 1 + 1 + 1) = some (.row 4 (true, 32) ([.str f.p, .sl (f.a.map V.cs), .int .i64 r, .sl (x.cs :: l'.map Nd.cs)] :: l'.map Nd.cs)) := by
          rw [← hs7, St.get_put, if_neg (by omega), St.get_push, if_pos (by simp [h6n])]
        have hS7 := hS s7 (1 + l'.length) (Nat.add_comm _ _) g711
        have hM7 := hM' s7 g75
        clear lo7 hS hM'
        repeat' (first
          | (refine WP.swb 2 6 (by decide) (by decide) (Keep s1 [s.nx + 1]) fun k hk => ?_)
          | (refine WP.swb 1 5 (by decide) (by decide) (Keep s6 [s.nx + 1]) fun k hk => ?_)
          | refine WP.t ?_ | refine WP.k ?_ | refine WP.e ?_ | refine Qn ?_ | refine Qr ?_ | refine Qe ?_ | refine Bn ?_ | refine Br ?_ | refine Be ?_ | refine Bx (by decide) ?_
          | (refine RS.nl ?_; refine hk _ _ ?_; clear hk k)
          | ((first | refine RS.st fun A B hA hB => ?_ | refine RQ.st fun A B hA hB => ?_); simp [hcs, hgcs, hsh, hfw, hck, hone, hby, hby2, hs1, h1n, g10, g11, g12, hs2, h2n, g20, g21, g22, g24, hs3, h3n, g30, g31, g32, g35, hs4, h4n, g40, g41, g42, g45, g46, g47, hN, hL, hW, hs5, h5n, g50, g51, g58, hs6, h6n, g60, g61, g62, g65, g66, g67, g68, g69, hs7, h7n, g70, g71, g72, g75, g76, g77, g78, g79, g711, hS7, hM7, hone3, hby3, Nd.len, h1le, htk, hb1, hb2, hb3, St.get_drop, onW_t, onW_f, onV_s]; first | ((first | refine hA _ _ _ ?_ ?_ | refine hA _ _ _ ?_ (by first | exact .inl rfl | exact .inr (by decide)) ?_); (focus (simp [hcs, hgcs, hsh, hfw, hck, hone, hby, hby2, hs1, h1n, g10, g11, g12, hs2, h2n, g20, g21, g22, g24, hs3, h3n, g30, g31, g32, g35, hs4, h4n, g40, g41, g42, g45, g46, g47, hN, hL, hW, hs5, h5n, g50, g51, g58, hs6, h6n, g60, g61, g62, g65, g66, g67, g68, g69, hs7, h7n, g70, g71, g72, g75, g76, g77, g78, g79, g711, hS7, hM7, hone3, hby3, Nd.len, h1le, htk, hb1, hb2, hb3, St.get_drop] <;> omega)); clear hA hB A B) | (refine hB ?_; clear hA hB A B) | (refine onV_if ?_ ?_; (focus (first | omega | (refine ⟨?_, ?_⟩ <;> omega))); simp only [onV_s]; (first | refine hA _ _ _ ?_ ?_ | refine hA _ _ _ ?_ (by first | exact .inl rfl | exact .inr (by decide)) ?_); (focus (simp [hcs, hgcs, hsh, hfw, hck, hone, hby, hby2, hs1, h1n, g10, g11, g12, hs2, h2n, g20, g21, g22, g24, hs3, h3n, g30, g31, g32, g35, hs4, h4n, g40, g41, g42, g45, g46, g47, hN, hL, hW, hs5, h5n, g50, g51, g58, hs6, h6n, g60, g61, g62, g65, g66, g67, g68, g69, hs7, h7n, g70, g71, g72, g75, g76, g77, g78, g79, g711, hS7, hM7, hone3, hby3, Nd.len, h1le, htk, hb1, hb2, hb3, St.get_drop] <;> omega)); clear hA hB A B))
          | (refine RQ.nl ?_; refine hk _ _ ?_; clear hk k)
          | (refine RW.nl ?_ ?_; (focus (first | exact .inl (by decide) | (refine .inr ?_; (simp [hcs, hgcs, hsh, hfw, hck, hone, hby, hby2, hs1, h1n, g10, g11, g12, hs2, h2n, g20, g21, g22, g24, hs3, h3n, g30, g31, g32, g35, hs4, h4n, g40, g41, g42, g45, g46, g47, hN, hL, hW, hs5, h5n, g50, g51, g58, hs6, h6n, g60, g61, g62, g65, g66, g67, g68, g69, hs7, h7n, g70, g71, g72, g75, g76, g77, g78, g79, g711, hS7, hM7, hone3, hby3, Nd.len, h1le, htk, hb1, hb2, hb3, St.get_drop] <;> omega)))); refine hk _ _ ?_; clear hk k)
          | (refine RW.st ?_ fun A B hA hB => ?_; (focus (first | exact .inl (by decide) | (refine .inr ?_; (simp [hcs, hgcs, hsh, hfw, hck, hone, hby, hby2, hs1, h1n, g10, g11, g12, hs2, h2n, g20, g21, g22, g24, hs3, h3n, g30, g31, g32, g35, hs4, h4n, g40, g41, g42, g45, g46, g47, hN, hL, hW, hs5, h5n, g50, g51, g58, hs6, h6n, g60, g61, g62, g65, g66, g67, g68, g69, hs7, h7n, g70, g71, g72, g75, g76, g77, g78, g79, g711, hS7, hM7, hone3, hby3, Nd.len, h1le, htk, hb1, hb2, hb3, St.get_drop] <;> omega)))); simp [hcs, hgcs, hsh, hfw, hck, hone, hby, hby2, hs1, h1n, g10, g11, g12, hs2, h2n, g20, g21, g22, g24, hs3, h3n, g30, g31, g32, g35, hs4, h4n, g40, g41, g42, g45, g46, g47, hN, hL, hW, hs5, h5n, g50, g51, g58, hs6, h6n, g60, g61, g62, g65, g66, g67, g68, g69, hs7, h7n, g70, g71, g72, g75, g76, g77, g78, g79, g711, hS7, hM7, hone3, hby3, Nd.len, h1le, htk, hb1, hb2, hb3, St.get_drop, onW_t, onW_f, onV_s]; first | (refine hA _ _ _ ?_ ?_ ?_ ?_; (focus (simp [hcs, hgcs, hsh, hfw, hck, hone, hby, hby2, hs1, h1n, g10, g11, g12, hs2, h2n, g20, g21, g22, g24, hs3, h3n, g30, g31, g32, g35, hs4, h4n, g40, g41, g42, g45, g46, g47, hN, hL, hW, hs5, h5n, g50, g51, g58, hs6, h6n, g60, g61, g62, g65, g66, g67, g68, g69, hs7, h7n, g70, g71, g72, g75, g76, g77, g78, g79, g711, hS7, hM7, hone3, hby3, Nd.len, h1le, htk, hb1, hb2, hb3, St.get_drop] <;> omega)); (focus (first | exact .inl (by decide) | exact .inr (.inl rfl) | exact .inr (.inr rfl))); (focus (first | exact .inl (by decide) | exact .inr (.inl (by decide)) | (refine .inr (.inr fun s2 hs2 => ?_); have hs2n := hs2.nx; simp only [Keep_cons, Keep_nil] at hs2; simp [hcs, hgcs, hsh, hfw, hck, hone, hby, hby2, hs1, h1n, g10, g11, g12, hs2, h2n, g20, g21, g22, g24, hs3, h3n, g30, g31, g32, g35, hs4, h4n, g40, g41, g42, g45, g46, g47, hN, hL, hW, hs5, h5n, g50, g51, g58, hs6, h6n, g60, g61, g62, g65, g66, g67, g68, g69, hs7, h7n, g70, g71, g72, g75, g76, g77, g78, g79, g711, hS7, hM7, hone3, hby3, Nd.len, h1le, htk, hb1, hb2, hb3, St.get_drop, hs2, hs2n]; done))); clear hA hB A B) | (refine hB ?_; clear hA hB A B))
          | refine WP.sr fun k hk => ?_ | refine WP.r fun k hk => ?_
          | (refine WP.swK [] ?_ fun k hk => ?_; (focus (decide))) | (refine WP.wK [] ?_ fun k hk => ?_; (focus (decide))) | refine WP.sd _ rfl fun k hk => ?_ | refine WP.d _ rfl fun k hk => ?_
          | (refine WP.cc fun A B hA hB => ?_; simp [hcs, hgcs, hsh, hfw, hck, hone, hby, hby2, hs1, h1n, g10, g11, g12, hs2, h2n, g20, g21, g22, g24, hs3, h3n, g30, g31, g32, g35, hs4, h4n, g40, g41, g42, g45, g46, g47, hN, hL, hW, hs5, h5n, g50, g51, g58, hs6, h6n, g60, g61, g62, g65, g66, g67, g68, g69, hs7, h7n, g70, g71, g72, g75, g76, g77, g78, g79, g711, hS7, hM7, hone3, hby3, Nd.len, h1le, htk, hb1, hb2, hb3, St.get_drop, onB_t, onB_f]; first | (refine hA ?_; clear hA hB A B) | (refine hB ?_; clear hA hB A B) | (refine onB_if (fun h => hA ?_) (fun h => hB ?_) <;> clear hA hB A B))
          | refine WP.q ?_ | refine WP.b ?_)
        simp
end
end Go.Am
