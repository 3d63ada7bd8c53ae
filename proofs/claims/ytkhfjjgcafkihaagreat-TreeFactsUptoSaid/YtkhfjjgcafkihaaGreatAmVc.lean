/- Part of the proof: abstract values over the given model of Go (P2, V7). Conditions: none of its own; see the statement in the seat's Rows text. -/
import Derived.Test.YtkhfjjgcafkihaaGreatAmRf
import Derived.Test.YtkhfjjgcafkihaaGreatAmVa
set_option linter.unusedSimpArgs false
set_option linter.unusedVariables false
set_option linter.unusedSectionVars false
namespace Go.Am
open Go.Proofs
/-! ### a tree of a fact alone, plainly -/
theorem known_nil {a : List Tm} (h : knownE a [] = true) : ∀ t ∈ a, t.b = false := by
  intro t ht
  have := List.all_eq_true.1 h t ht
  simpa [inE] using this
theorem ground_nil : ∀ {a : List Tm}, (∀ t ∈ a, t.b = false) → groundE [] a = some (a.map fun t => bareV t.v)
  | [], _ => rfl
  | t :: ts, h => by
    have h1 : valT t [] = some (bareV t.v) := by unfold valT; rw [if_neg (by rw [h t (by simp)]; simp)]
    simp only [groundE, h1, ground_nil (a := ts) fun u hu => h u (by simp [hu])]
    rfl
theorem match_nil : ∀ {a : List Tm} {r : List V}, (∀ t ∈ a, t.b = false) → matchE a r [] = if cmpT (a.map fun t => bareV t.v) r = 0 then some [] else none
  | [], [], _ => rfl
  | [], v :: vs, _ => by
    show none = _
    rw [if_neg]
    simp [cmpT]
  | t :: ts, [], _ => by
    show none = _
    rw [if_neg]
    simp [cmpT]
  | t :: ts, v :: vs, h => by
    have h1 : valT t [] = some (bareV t.v) := by unfold valT; rw [if_neg (by rw [h t (by simp)]; simp)]
    simp only [matchE, h1, List.map_cons]
    rw [match_nil (a := ts) fun u hu => h u (by simp [hu])]
    by_cases hz : cmpV (bareV t.v) v = 0
    · simp [cmpT, hz]
    · have hb : (cmpV (bareV t.v) v == 0) = false := by rw [beq_eq_false_iff_ne]; exact hz
      rw [hb]
      simp [cmpT, hz]
theorem solve_noPos : ∀ {b : List Lit} {e : Envr}, noPos b = true → solveL b [] e = some (e, [])
  | [], e, _ => rfl
  | l :: ls, e, h => by
    simp only [noPos, List.all_cons, Bool.and_eq_true] at h
    have h1 : ¬ l.kind = 1 := by simpa using h.1
    simp only [solveL, if_neg h1]
    exact solve_noPos h.2
def nf (d : List Bool) : Nat := (d.filter fun x => !x).length
theorem nf_set : ∀ {d : List Bool} {j : Nat}, d[j]? = some false → nf (d.set j true) + 1 = nf d
  | [], j, h => by simp at h
  | x :: d, 0, h => by
    simp at h
    subst h
    simp [nf]
  | x :: d, j + 1, h => by
    have := nf_set (d := d) (j := j) (by simpa using h)
    unfold nf at *
    simp only [List.set_cons_succ, List.filter_cons]
    split
    · simp only [List.length_cons]; omega
    · exact this
theorem nf_zero : ∀ {d : List Bool}, nf d = 0 → ∀ (j : Nat) (x : Bool), d[j]? = some x → x = true
  | [], _, j, x, h => by simp at h
  | y :: d, hn, 0, x, h => by
    simp at h
    subst h
    cases y with
    | true => rfl
    | false => simp [nf] at hn
  | y :: d, hn, j + 1, x, h => by
    refine nf_zero (d := d) ?_ j x (by simpa using h)
    unfold nf at *
    simp only [List.filter_cons] at hn
    split at hn
    · simp at hn
    · exact hn
theorem next_known : ∀ {b : List Lit} {d : List Bool} {i : Nat} {most : Int} {j : Nat}, noPos b = true → nextE [] i b d (-1) most = (j : Int) → i ≤ j ∧ d[j - i]? = some false ∧ ∃ l, b[j - i]? = some l ∧ knownE (termsE l) [] = true
  | [], _, i, most, j, _, h => by simp [nextE] at h
  | _ :: _, [], i, most, j, _, h => by simp [nextE] at h
  | l :: ls, x :: d, i, most, j, hp, h => by
    simp only [noPos, List.all_cons, Bool.and_eq_true] at hp
    have h1 : ¬ l.kind = 1 := by simpa using hp.1
    simp only [nextE] at h
    have rec' : ∀ (h : nextE [] (i + 1) ls d (-1) most = (j : Int)), i ≤ j ∧ (x :: d)[j - i]? = some false ∧ ∃ l', (l :: ls)[j - i]? = some l' ∧ knownE (termsE l') [] = true := fun h => by
      obtain ⟨a1, a2, l', a3, a4⟩ := next_known (b := ls) (d := d) hp.2 h
      obtain ⟨q, rfl⟩ : ∃ q, j = i + 1 + q := ⟨j - (i + 1), by omega⟩
      have e1 : i + 1 + q - (i + 1) = q := by omega
      have e2 : i + 1 + q - i = q + 1 := by omega
      rw [e1] at a2 a3
      rw [e2]
      exact ⟨by omega, by simpa using a2, l', by simpa using a3, a4⟩
    split at h
    · exact rec' h
    · rename_i hx
      split at h
      · rename_i hk
        obtain rfl : i = j := by omega
        rw [Nat.sub_self]
        exact ⟨Nat.le_refl _, by simpa using hx, l, rfl, hk.2⟩
      · rw [if_neg (fun h => h1 h.1)] at h
        exact rec' h
theorem ord_known {b : List Lit} (hp : noPos b = true) : ∀ {m : Nat} {d : List Bool} {out : List Nat}, nf d = m → d.length = b.length → (∀ (j : Nat) (l : Lit), d[j]? = some true → b[j]? = some l → knownE (termsE l) [] = true) → (ordE b (-1) m d [] out).isSome = true → ∀ l ∈ b, knownE (termsE l) [] = true
  | 0, d, out, hn, hl, hd, h => fun l hlm => by
    obtain ⟨j, hj⟩ := List.mem_iff_getElem?.1 hlm
    have hjl : j < d.length := by rw [hl]; exact (List.getElem?_eq_some_iff.1 hj).1
    have := nf_zero hn j _ (List.getElem?_eq_getElem hjl)
    exact hd j l (by rw [List.getElem?_eq_getElem hjl, this]) hj
  | m + 1, d, out, hn, hl, hd, h => by
    have hpk : pickE b (-1) d [] out = nextE [] 0 b d (-1) (-1) := by unfold pickE; rw [if_neg (by simp)]
    unfold ordE at h
    rw [hpk] at h
    split at h
    · cases h
    · rename_i hneg
      obtain ⟨j, hj⟩ := Int.eq_ofNat_of_zero_le (Int.not_lt.1 hneg)
      have hj' : nextE [] 0 b d (-1) (-1) = (j : Int) := hj
      obtain ⟨_, a2, l, a3, a4⟩ := next_known hp hj'
      rw [Nat.sub_zero] at a2 a3
      rw [hj', Int.toNat_natCast, a3] at h
      have hk1 : ¬ l.kind = 1 := by
        have := List.all_eq_true.1 hp l (List.mem_of_getElem? a3)
        simpa using this
      simp only [if_neg hk1] at h
      refine ord_known hp (m := m) (d := d.set j true) (out := out ++ [j]) ?_ (by simpa using hl) (fun i l' h1 h2 => ?_) h
      · have := nf_set a2; omega
      · by_cases e : i = j
        · subst e
          rw [a3] at h2
          cases h2
          exact a4
        · rw [List.getElem?_set_ne (fun h => e h.symm)] at h1
          exact hd i l' h1 h2
theorem order_known {b : List Lit} (hp : noPos b = true) (h : (orderE b (-1)).2 = 0) : ∀ l ∈ b, knownE (termsE l) [] = true := by
  have hrep : ∀ n, nf (List.replicate n false) = n := fun n => by
    induction n with
    | zero => rfl
    | succ n ih => unfold nf at *; simp
  unfold orderE at h
  split at h
  · split at h
    · cases ho : ordE b (-1) b.length (List.replicate b.length false) [] [] with
      | none => rw [ho] at h; simp at h
      | some o =>
        refine ord_known hp (d := List.replicate b.length false) (out := []) (hrep _) (by simp) (fun j l h1 h2 => ?_) (by rw [ho]; rfl)
        rw [List.getElem?_replicate] at h1
        split at h1 <;> simp at h1
    · simp at h
  · simp at h
theorem grE_nil {b : List Lit} (h : ∀ l ∈ b, knownE (termsE l) [] = true) : grE [] b = true := by
  unfold grE
  rw [List.all_eq_true]
  intro l hl
  by_cases hk : l.kind = 2
  · have h1 := h l hl
    have h2 : termsE l = l.atom.a := if_neg (by omega)
    rw [h2] at h1
    rw [ground_nil (known_nil h1)]
    simp
  · simp [hk]
theorem fact_alone {g : Pg} {fs : List Fc} {f : Fc} {k : Nat} {r : Rl} (hr : g.rules[k]? = some r) (hp : noPos r.body = true) (hb : (heads0 r fs).2 = 0) :
    provesE g fs (.mk f k []) [] = (heads0 r fs).1.any fun row => r.head.p == f.p && cmpT row f.a == 0 := by
  have hpr : provesE g fs (.mk f k []) [] = standsE g fs (.mk f k []) := by
    rw [provesE_eq]
    simp [Nd.k]
  rw [hpr, standsE_some (r := r) (j := k) rfl hr]
  unfold heads0 at hb ⊢
  split at hb
  · rename_i ho
    split at hb
    · rename_i hkn
      rw [if_pos ho, if_pos hkn]
      have hv := known_nil hkn
      have hg := ground_nil hv
      have hgr := grE_nil (order_known hp ho)
      have hsol := fun e => solve_noPos (e := e) hp
      simp only [Nd.f, Nd.k]
      rw [match_nil hv]
      unfold rows0
      rw [hg]
      simp only [Option.getD_some]
      generalize (r.head.a.map fun t => bareV t.v) = row
      by_cases hz : cmpT row f.a = 0
      · rw [if_pos hz]
        simp only [hsol, hgr, Bool.true_and, List.length_nil]
        by_cases hpp : r.head.p = f.p
        · cases hask : asksE r.body fs [] <;> simp [hpp, hz]
        · cases hask : asksE r.body fs [] <;> simp [hpp]
      · rw [if_neg hz]
        cases hask : asksE r.body fs [] <;> simp [hz]
    · simp at hb
  · rename_i ho
    exact absurd hb ho
theorem fact_pos {g : Pg} {fs : List Fc} {f : Fc} {k : Nat} {r : Rl} (hr : g.rules[k]? = some r) (hp : ∃ l ∈ r.body, l.kind = 1) : provesE g fs (.mk f k []) [] = false := by
  cases h : provesE g fs (.mk f k []) [] with
  | false => rfl
  | true =>
    obtain ⟨j, r', h1, h2, h3⟩ := standsE_cnt (provesE_stands h)
    have : j = k := by simp [Nd.r] at h1; omega
    subst this
    rw [hr] at h2
    cases h2
    obtain ⟨l, hl, hk⟩ := hp
    have hm : l ∈ r.body.filter fun l => l.kind = 1 := List.mem_filter.2 ⟨hl, by simpa using hk⟩
    simp only [Nd.k, List.length_nil, asks] at h3
    have := List.length_pos_of_mem hm
    omega
end Go.Am
namespace Go.Am
open Go.Proofs
noncomputable def gFew (xs : List AV) : Option AV :=
  match xs with
  | [.agg a, .sl b, .agg c] => match cPg.un a, unL cFc b, cNd.un c with
    | some g, some fs, some n => if okPg g = true ∧ okFs fs = true ∧ sizeE n < MB then some (.bool (fewE g fs n)) else none
    | _, _, _ => none
  | _ => none
noncomputable def gChk (xs : List AV) : Option AV :=
  match xs with
  | [.agg a, .sl b, .agg c] => match cPg.un a, unL cFc b, cNd.un c with
    | some g, some fs, some n => if okPg g = true ∧ okFs fs = true ∧ okT n = true ∧ deepE n < MB then some (.int .i64 (if provesE g fs n [] then 0 else 11)) else none
    | _, _, _ => none
  | _ => none
theorem gFew_of (g : Pg) (fs : List Fc) (n : Nd) (h1 : okPg g = true) (h2 : okFs fs = true) (h3 : sizeE n < MB) : gFew [.agg g.cs, .sl (fs.map Fc.cs), .agg n.cs] = some (.bool (fewE g fs n)) := by
  have u1 : cPg.un g.cs = some g := cPg.un_cs g
  have u2 : cNd.un n.cs = some n := cNd.un_cs n
  have u3 := unL_Fc fs
  simp [gFew, u1, u2, u3, h1, h2, h3]
theorem gChk_of (g : Pg) (fs : List Fc) (n : Nd) (h1 : okPg g = true) (h2 : okFs fs = true) (h3 : okT n = true) (h4 : deepE n < MB) : gChk [.agg g.cs, .sl (fs.map Fc.cs), .agg n.cs] = some (.int .i64 (if provesE g fs n [] then 0 else 11)) := by
  have u1 : cPg.un g.cs = some g := cPg.un_cs g
  have u2 : cNd.un n.cs = some n := cNd.un_cs n
  have u3 := unL_Fc fs
  simp [gChk, u1, u2, u3, h1, h2, h3, h4]
def nd0 : Nd := .mk ⟨[], []⟩ 0 []
theorem nd0_cs : nd0.cs = [.str [], .sl [], .int .i64 0, .sl []] := by rw [Nd.cs_eq]; rfl
theorem ndk_cs (f : Fc) (k : Int) : (Nd.mk f k []).cs = [.str f.p, .sl (f.a.map V.cs), .int .i64 k, .sl []] := by rw [Nd.cs_eq]; rfl
noncomputable def gHd (xs : List AV) : Option AV :=
  match xs with
  | [.agg a, .sl b, .nsl, .int .i64 (-1)] => match cRl.un a, unL cFc b with
    | some r, some fs => if r.body.length ≤ 1048576 ∧ wL r.body ≤ 1048576 ∧ r.head.a.length ≤ 1048576 ∧ noPos r.body = true ∧ okRlS r = true ∧ fs.length < MB ∧ okFsS fs = true then some (.tup [.sl ((heads0 r fs).1.map Rw1), .int .i64 (heads0 r fs).2]) else none
    | _, _ => none
  | _ => none
section
variable {K : Nat} {gw : World} {s : St}
attribute [local simp] awanted xop zOf cz zrow aop ev T0 Slots.put Slots.set Slots.get awr WOk AV.may ofConst abinop aint isConst St.get_push St.get_put St.live AV.fit AV.cells AV.one fieldOf afieldAddr aload ofCells astore splice May eqres env_ti FinP FinZ FinW ares aresL ares1 Fns.addP Fns.add Fns.a0 Fns.a1 Fns.a2 Fns.a3 Fns.a4 abuiltin alenOk alen aindex elemOfT elemId abuildSlice afill chunks ard aappend isSS AV.isStr aminmax placesOf abuild afield aidx isStrD isStrDesc astrop aslice asliceOk abound arange anext aextract aunop aeq AV.ck avseq aveq aconv aconvert onB_t onB_f List.range_succ
theorem gChk_ok (xs : List AV) (s : St) (r : AV) (h : gChk xs = some r) : FT (env K gw) NoW 7 xs s r s := by
  unfold gChk at h
  split at h
  · split at h
    · rename_i h1 h2 h3
      split at h
      · rename_i hl
        cases h
        rw [cPg.cs_un _ _ h1, unL_eq cFc _ _ h2, cNd.cs_un _ _ h3]
        exact ft_Check _ _ _ hl.1 hl.2.1 hl.2.2.1 hl.2.2.2
      · cases h
    · cases h
  · cases h
theorem gFew_ok (xs : List AV) (s : St) (r : AV) (h : gFew xs = some r) : FT (env K gw) NoW 6 xs s r s := by
  unfold gFew at h
  split at h
  · split at h
    · rename_i h1 h2 h3
      split at h
      · rename_i hl
        cases h
        rw [cPg.cs_un _ _ h1, unL_eq cFc _ _ h2, cNd.cs_un _ _ h3]
        exact ft_few _ _ _ (okPg_iff.1 hl.1).1 (fun r hr => (okRl_iff.1 ((okPg_iff.1 hl.1).2 r hr)).2) (okFs_iff.1 hl.2.1).1 hl.2.2
      · cases h
    · cases h
  · cases h
theorem gHd_ok (xs : List AV) (s : St) (r : AV) (h : gHd xs = some r) : FT (env K gw) NoW 8 xs s r s := by
  unfold gHd at h
  split at h
  · split at h
    · rename_i h1 h2
      split at h
      · rename_i hl
        obtain ⟨c1, c2, c3, c4, c5, c6, c7⟩ := hl
        cases h
        rw [cRl.cs_un _ _ h1, unL_eq cFc _ _ h2]
        exact ft_RHeads0 _ _ c1 c2 c3 c4 c5 c6 c7
      · cases h
    · cases h
  · cases h
noncomputable def FF : Fns := ((((F0.a0 5 (.bool true)).addN 6 gFew).addN 7 gChk).addP 8 gHd).a2 9 (vSl cV) (vSl cV) fun x y => if okR x = true ∧ okR y = true then some (.int .i64 (cmpT x y)) else none
theorem FF_ok : FOk (env K gw) FF := by
  refine ((((F0_ok.addP fun xs s r h => ?_).addN gFew_ok).addN gChk_ok).addP gHd_ok).a2 fun x y s r h => ?_
  · split at h
    · cases h; exact ft_shown
    · cases h
  · split at h
    · rename_i hl; cases h; exact ft_RTComp x y hl.1 hl.2
    · cases h
theorem nrm_pg (g : Pg) : nrm (.agg g.cs) = .agg g.cs := by simp [nrm, nrm0, Pg.cs]
theorem FF_few (g : Pg) (fs : List Fc) (h1 : okPg g = true) (h2 : okFs fs = true) (s2 : St) : FF 6 [.agg g.cs, .sl (fs.map Fc.cs), .agg [.str [], .nsl, .int .i64 0, .nsl]] s2 = some (.bool (fewE g fs nd0), s2, []) := by
  have := gFew_of g fs nd0 h1 h2 (by decide)
  rw [nd0_cs] at this
  have e1 := nrm_pg g
  have e2 : nrm (.sl (fs.map Fc.cs)) = .sl (fs.map Fc.cs) := rfl
  have e3 : nrm (.agg [.str [], .nsl, .int .i64 0, .nsl]) = .agg [.str [], .sl [], .int .i64 0, .sl []] := rfl
  simp [FF, Fns.addN, e1, e2, e3, this]
theorem FF_chk (g : Pg) (fs : List Fc) (f : Fc) (k : Int) (h1 : okPg g = true) (h2 : okFs fs = true) (h3 : f.a.length < MB) (s2 : St) : FF 7 [.agg g.cs, .sl (fs.map Fc.cs), .agg [.str f.p, .sl (f.a.map V.cs), .int .i64 k, .nsl]] s2 = some (.int .i64 (if provesE g fs (.mk f k []) [] then 0 else 11), s2, []) := by
  have := gChk_of g fs (.mk f k []) h1 h2 (okT_iff.2 ⟨h3, by simp [Nd.k], fun c hc => by simp [Nd.k] at hc⟩) (by rw [deepE_eq]; simp [Nd.k, deepL, MB])
  rw [ndk_cs] at this
  have e1 := nrm_pg g
  have e2 : nrm (.sl (fs.map Fc.cs)) = .sl (fs.map Fc.cs) := rfl
  have e3 : nrm (.agg [.str f.p, .sl (f.a.map V.cs), .int .i64 k, .nsl]) = .agg [.str f.p, .sl (f.a.map V.cs), .int .i64 k, .sl []] := rfl
  simp [FF, Fns.addN, e1, e2, e3, this]
theorem FF_heads (r : Rl) (fs : List Fc) (c1 : r.body.length ≤ 1048576) (c2 : wL r.body ≤ 1048576) (c3 : r.head.a.length ≤ 1048576) (c4 : noPos r.body = true) (c5 : okRlS r = true) (c6 : fs.length < MB) (c7 : okFsS fs = true) (s2 : St) :
    FF 8 [.agg r.cs, .sl (fs.map Fc.cs), .nsl, .int .i64 (-1)] s2 = some (.tup [.sl ((heads0 r fs).1.map Rw1), .int .i64 (heads0 r fs).2], s2, []) := by
  have u : cRl.un r.cs = some r := cRl.un_cs r
  have u2 := unL_Fc fs
  simp only [MB] at c6
  simp [FF, gHd, u, u2, c1, c2, c3, c4, c5, c6, c7]
theorem FF_cmp (x y : List V) (hx : okR x = true) (hy : okR y = true) (s2 : St) : FF 9 [.sl (x.map V.cs), .sl (y.map V.cs)] s2 = some (.int .i64 (cmpT x y), s2, []) := by
  have h1 : (vSl cV).dec (.sl (x.map V.cs)) = some x := (vSl cV).dec_enc x
  have h2 : (vSl cV).dec (.sl (y.map V.cs)) = some y := (vSl cV).dec_enc y
  simp [FF, h1, h2, hx, hy]
theorem FF_shown (s2 : St) : FF 5 [] s2 = some (.bool true, s2, []) := by simp [FF, Fns.addN]
theorem heads0_ok {r : Rl} {fs : List Fc} (h1 : okRlS r = true) (h2 : r.head.a.length ≤ 1048576) : ∀ row ∈ (heads0 r fs).1, okR row = true := by
  intro row hr
  unfold heads0 rows0 at hr
  split at hr
  · split at hr
    · split at hr
      · rw [List.mem_singleton] at hr
        subst hr
        exact row_ok (by simp only [LIM]; omega) rfl (okRlS_iff.1 h1).1
      · cases hr
    · cases hr
  · cases hr
theorem heads0_len (r : Rl) (fs : List Fc) : (heads0 r fs).1.length ≤ 1 := by
  unfold heads0 rows0
  repeat' split
  all_goals simp
set_option maxRecDepth 20000 in
set_option maxHeartbeats 2000000 in
theorem ft_Facts (g : Pg) (fs : List Fc) (f : Fc) (m : Nat) (hm : m < 256) (hg : okPg g = true) (hfs : okFs fs = true) (hgS : okPgS g = true) (hfsS : okFsS fs = true) (hf : f.a.length < MB) (hfS : okFcS f = true)
    (hsz : ∀ r ∈ g.rules, r.body.length ≤ 1048576 ∧ wL r.body ≤ 1048576 ∧ r.head.a.length ≤ 1048576) :
    FT (env K gw) NoW 3 [.agg g.cs, .sl (fs.map Fc.cs), .agg f.cs, .int .u8 m] s (.bool true) s := by
  have hgcs : g.cs = [.sl (g.decls.map Dc.cs), .sl (g.rules.map Rl.cs)] := rfl
  have hfcs : f.cs = [.str f.p, .sl (f.a.map V.cs)] := rfl
  have hQs := FF_shown
  have hQf := FF_few g fs hg hfs
  rw [hgcs] at hQf
  refine FT.pure (fn := Tryz.f3) FF_ok mixed Tryz.func3 (by kernel_rfl) (by rfl) rfl rfl (by simp) rfl fun μ w => ?_
  cases hfw : fewE g fs nd0 with
  | false =>
    rw [hfw] at hQf
    repeat' (first
      | refine WP.t ?_ | refine WP.k ?_ | refine WP.e ?_ | refine Qn ?_ | refine Qr ?_ | refine Qe ?_ | refine Bn ?_ | refine Br ?_ | refine Be ?_ | refine Bx (by decide) ?_
      | (refine RS.nl ?_; refine hk _ _ ?_; clear hk k)
      | ((first | refine RS.st fun A B hA hB => ?_ | refine RQ.st fun A B hA hB => ?_); simp [hgcs, hfcs, hQs, hQf, onW_t, onW_f, onV_s]; first | ((first | refine hA _ _ _ ?_ ?_ | refine hA _ _ _ ?_ (by first | exact .inl rfl | exact .inr (by decide)) ?_); (focus (simp [hgcs, hfcs, hQs, hQf] <;> omega)); clear hA hB A B) | (refine hB ?_; clear hA hB A B) | (refine onV_if ?_ ?_; (focus (first | omega | (refine ⟨?_, ?_⟩ <;> omega))); simp only [onV_s]; (first | refine hA _ _ _ ?_ ?_ | refine hA _ _ _ ?_ (by first | exact .inl rfl | exact .inr (by decide)) ?_); (focus (simp [hgcs, hfcs, hQs, hQf] <;> omega)); clear hA hB A B))
      | (refine RQ.nl ?_; refine hk _ _ ?_; clear hk k)
      | refine WP.sr fun k hk => ?_ | refine WP.r fun k hk => ?_
      | refine WP.sd _ rfl fun k hk => ?_ | refine WP.d _ rfl fun k hk => ?_
      | (refine WP.cc fun A B hA hB => ?_; simp [hgcs, hfcs, hQs, hQf, onB_t, onB_f]; first | (refine hA ?_; clear hA hB A B) | (refine hB ?_; clear hA hB A B) | (refine onB_if (fun h => hA ?_) (fun h => hB ?_) <;> clear hA hB A B))
      | refine WP.q ?_ | refine WP.b ?_)
    simp
  | true =>
    rw [hfw] at hQf
    by_cases h0 : g.rules.length = 0
    · have h0b : ((g.rules.length : Int) == 0) = true := by simp [h0]
      repeat' (first
        | refine WP.t ?_ | refine WP.k ?_ | refine WP.e ?_ | refine Qn ?_ | refine Qr ?_ | refine Qe ?_ | refine Bn ?_ | refine Br ?_ | refine Be ?_ | refine Bx (by decide) ?_
        | (refine RS.nl ?_; refine hk _ _ ?_; clear hk k)
        | ((first | refine RS.st fun A B hA hB => ?_ | refine RQ.st fun A B hA hB => ?_); simp [hgcs, hfcs, hQs, hQf, h0b, onW_t, onW_f, onV_s]; first | ((first | refine hA _ _ _ ?_ ?_ | refine hA _ _ _ ?_ (by first | exact .inl rfl | exact .inr (by decide)) ?_); (focus (simp [hgcs, hfcs, hQs, hQf, h0b] <;> omega)); clear hA hB A B) | (refine hB ?_; clear hA hB A B) | (refine onV_if ?_ ?_; (focus (first | omega | (refine ⟨?_, ?_⟩ <;> omega))); simp only [onV_s]; (first | refine hA _ _ _ ?_ ?_ | refine hA _ _ _ ?_ (by first | exact .inl rfl | exact .inr (by decide)) ?_); (focus (simp [hgcs, hfcs, hQs, hQf, h0b] <;> omega)); clear hA hB A B))
        | (refine RQ.nl ?_; refine hk _ _ ?_; clear hk k)
        | refine WP.sr fun k hk => ?_ | refine WP.r fun k hk => ?_
        | refine WP.sd _ rfl fun k hk => ?_ | refine WP.d _ rfl fun k hk => ?_
        | (refine WP.cc fun A B hA hB => ?_; simp [hgcs, hfcs, hQs, hQf, h0b, onB_t, onB_f]; first | (refine hA ?_; clear hA hB A B) | (refine hB ?_; clear hA hB A B) | (refine onB_if (fun h => hA ?_) (fun h => hB ?_) <;> clear hA hB A B))
        | refine WP.q ?_ | refine WP.b ?_)
      simp
    · have h0b : ((g.rules.length : Int) == 0) = false := by rw [beq_eq_false_iff_ne]; omega
      have hwm : IntKind.i64.wrap (m : Int) = (m : Int) := wrap64 (by omega) (by omega)
      have hrem : (m : Int).tmod (g.rules.length : Int) = ((m % g.rules.length : Nat) : Int) := (Int.ofNat_tmod m g.rules.length).symm
      have h0c : ¬ ((g.rules.length : Int) = 0) := by omega
      have hkl : m % g.rules.length < g.rules.length := Nat.mod_lt _ (by omega)
      have hki : ((m % g.rules.length : Nat) : Int) < (g.rules.length : Int) := by omega
      have hr : g.rules[m % g.rules.length]? = some g.rules[m % g.rules.length] := List.getElem?_eq_getElem hkl
      have hrm := List.getElem_mem hkl
      generalize hkk : m % g.rules.length = kx at *
      have h0d : ¬ g.rules = [] := by intro e; simp [e] at h0
      generalize hrr : g.rules[kx] = r at *
      obtain ⟨z1, z2, z3⟩ := hsz r hrm
      have hrs := okPgS_iff.1 hgS r hrm
      have hQc := FF_chk g fs f (kx : Int) hg hfs hf
      have hfa := fun h1 h2 => fact_alone (fs := fs) (f := f) (r := r) hr h1 h2
      have hfp := fun h1 => fact_pos (fs := fs) (f := f) (r := r) hr h1
      have hho := heads0_ok (fs := fs) hrs z3
      have hhl := heads0_len r fs
      have hQh := fun h1 => FF_heads r fs z1 z2 z3 h1 hrs (okFs_iff.1 hfs).1 hfsS
      have hrc : r.cs = [.str r.head.p, .sl (r.head.a.map Tm.cs), .sl (r.body.map Lit.cs)] := rfl
      rw [hgcs] at hQc
      rw [hrc] at hQh
      repeat' (first
        | refine WP.t ?_ | refine WP.k ?_ | refine WP.e ?_ | refine Qn ?_ | refine Qr ?_ | refine Qe ?_ | refine Bn ?_ | refine Br ?_ | refine Be ?_ | refine Bx (by decide) ?_
        | (refine RS.nl ?_; refine hk _ _ ?_; clear hk k)
        | ((first | refine RS.st fun A B hA hB => ?_ | refine RQ.st fun A B hA hB => ?_); simp [hgcs, hfcs, hQs, hQf, h0b, hwm, hrem, h0c, h0d, hkl, hki, hr, hrr, hrc, hkk, onW_t, onW_f, onV_s]; first | ((first | refine hA _ _ _ ?_ ?_ | refine hA _ _ _ ?_ (by first | exact .inl rfl | exact .inr (by decide)) ?_); (focus (simp [hgcs, hfcs, hQs, hQf, h0b, hwm, hrem, h0c, h0d, hkl, hki, hr, hrr, hrc, hkk] <;> omega)); clear hA hB A B) | (refine hB ?_; clear hA hB A B) | (refine onV_if ?_ ?_; (focus (first | omega | (refine ⟨?_, ?_⟩ <;> omega))); simp only [onV_s]; (first | refine hA _ _ _ ?_ ?_ | refine hA _ _ _ ?_ (by first | exact .inl rfl | exact .inr (by decide)) ?_); (focus (simp [hgcs, hfcs, hQs, hQf, h0b, hwm, hrem, h0c, h0d, hkl, hki, hr, hrr, hrc, hkk] <;> omega)); clear hA hB A B))
        | (refine RQ.nl ?_; refine hk _ _ ?_; clear hk k)
        | refine WP.sr fun k hk => ?_ | refine WP.r fun k hk => ?_
        | refine WP.sd _ rfl fun k hk => ?_ | refine WP.d _ rfl fun k hk => ?_
        | (refine WP.cc fun A B hA hB => ?_; simp [hgcs, hfcs, hQs, hQf, h0b, hwm, hrem, h0c, h0d, hkl, hki, hr, hrr, hrc, hkk, onB_t, onB_f]; first | (refine hA ?_; clear hA hB A B) | (refine hB ?_; clear hA hB A B) | (refine onB_if (fun h => hA ?_) (fun h => hB ?_) <;> clear hA hB A B))
        | refine WP.q ?_ | refine WP.b ?_)
      refine WP_loop (fun n T s' => ∃ (i : Nat), n + i = r.body.length ∧ T.get 1 = .sl (fs.map Fc.cs) ∧ T.get 4 = .ptr s.nx 0 ∧ T.get 6 = .ptr (s.nx + 1) 0 ∧ T.get 9 = .bool true ∧ T.get 10 = .int .i64 kx ∧ T.get 11 = .ptr (s.nx + 1 + 1) 0 ∧ T.get 12 = .int .i64 i ∧
        s'.get s.nx = some (.var 25 [.sl (g.decls.map Dc.cs), .sl (g.rules.map Rl.cs)]) ∧ s'.get (s.nx + 1) = some (.var 29 [.str f.p, .sl (f.a.map V.cs)]) ∧ s'.get (s.nx + 1 + 1) = some (.var 40 [.str r.head.p, .sl (r.head.a.map Tm.cs), .sl (r.body.map Lit.cs)]) ∧ s.nx + 1 + 1 < s'.nx ∧
        noPos (r.body.take i) = true) r.body.length
        ⟨0, by simp, by simp, by simp, by simp, by simp, by simp, by simp, by simp, by simp [St.get_push, St.get_put], by simp [St.get_push, St.get_put], by simp [St.get_push, St.get_put], by simp, rfl⟩ ?_
      rintro n T s' ⟨i, hn, h1, h4, h6, h9, h10, h11, h12, hg0, hg1, hg2, hnx, hnp⟩
      have hnx0 : s.nx < s'.nx := by omega
      have hnx1 : s.nx + 1 < s'.nx := by omega
      by_cases hi : i < r.body.length
      · have hwi : IntKind.i64.wrap ((i : Int) + 1) = (i : Int) + 1 := wrap64 (by omega) (by omega)
        have hlt : ((i : Int) < (r.body.length : Int)) := by omega
        have hbi : r.body[i]? = some r.body[i] := List.getElem?_eq_getElem hi
        have htk : r.body.take (i + 1) = r.body.take i ++ [r.body[i]] := List.take_succ_eq_append_getElem hi
        have hmem := List.getElem_mem hi
        generalize hl : r.body[i] = l at *
        have hlcs : l.cs = [.int .i64 l.kind, .str l.atom.p, .sl (l.atom.a.map Tm.cs), .str l.op, .bool l.l.b, .str l.l.k, .bool l.l.v.b, .str l.l.v.s, .int .i64 l.l.v.n, .bool l.r.b, .str l.r.k, .bool l.r.v.b, .str l.r.v.s, .int .i64 l.r.v.n] := rfl
        have hnp2 : ¬ l.kind = 1 → noPos (r.body.take (i + 1)) = true := fun hk => by
          rw [htk]
          unfold noPos at *
          rw [List.all_append, hnp]
          simp [hk]
        by_cases k2 : l.kind = 2
        · have k2b : (l.kind != 2) = false := by simp [k2]
          repeat' (first
            | refine WP.t ?_ | refine WP.k ?_ | refine WP.e ?_ | refine Qn ?_ | refine Qr ?_ | refine Qe ?_ | refine Bn ?_ | refine Br ?_ | refine Be ?_ | refine Bx (by decide) ?_
            | (refine RS.nl ?_; refine hk _ _ ?_; clear hk k)
            | ((first | refine RS.st fun A B hA hB => ?_ | refine RQ.st fun A B hA hB => ?_); simp [h1, h4, h6, h9, h10, h11, hg0, hg1, hg2, hnx, hnx0, hnx1, h12, hlt, hi, hbi, hl, hwi, hlcs, k2b, onW_t, onW_f, onV_s]; first | ((first | refine hA _ _ _ ?_ ?_ | refine hA _ _ _ ?_ (by first | exact .inl rfl | exact .inr (by decide)) ?_); (focus (simp [h1, h4, h6, h9, h10, h11, hg0, hg1, hg2, hnx, hnx0, hnx1, h12, hlt, hi, hbi, hl, hwi, hlcs, k2b] <;> omega)); clear hA hB A B) | (refine hB ?_; clear hA hB A B) | (refine onV_if ?_ ?_; (focus (first | omega | (refine ⟨?_, ?_⟩ <;> omega))); simp only [onV_s]; (first | refine hA _ _ _ ?_ ?_ | refine hA _ _ _ ?_ (by first | exact .inl rfl | exact .inr (by decide)) ?_); (focus (simp [h1, h4, h6, h9, h10, h11, hg0, hg1, hg2, hnx, hnx0, hnx1, h12, hlt, hi, hbi, hl, hwi, hlcs, k2b] <;> omega)); clear hA hB A B))
            | (refine RQ.nl ?_; refine hk _ _ ?_; clear hk k)
            | refine WP.sr fun k hk => ?_ | refine WP.r fun k hk => ?_
            | refine WP.sd _ rfl fun k hk => ?_ | refine WP.d _ rfl fun k hk => ?_
            | (refine WP.cc fun A B hA hB => ?_; simp [h1, h4, h6, h9, h10, h11, hg0, hg1, hg2, hnx, hnx0, hnx1, h12, hlt, hi, hbi, hl, hwi, hlcs, k2b, onB_t, onB_f]; first | (refine hA ?_; clear hA hB A B) | (refine hB ?_; clear hA hB A B) | (refine onB_if (fun h => hA ?_) (fun h => hB ?_) <;> clear hA hB A B))
            | refine WP.q ?_ | refine WP.b ?_)
          exact ⟨n - 1, by omega, i + 1, by omega, by simp [h1], by simp [h4], by simp [h6], by simp [h9], by simp [h10], by simp [h11], by simp, hg0, hg1, hg2, hnx, hnp2 (by omega)⟩
        · have k2b : (l.kind != 2) = true := by simp [k2]
          by_cases k3 : l.kind = 3
          · have k3b : (l.kind != 3) = false := by simp [k3]
            repeat' (first
              | refine WP.t ?_ | refine WP.k ?_ | refine WP.e ?_ | refine Qn ?_ | refine Qr ?_ | refine Qe ?_ | refine Bn ?_ | refine Br ?_ | refine Be ?_ | refine Bx (by decide) ?_
              | (refine RS.nl ?_; refine hk _ _ ?_; clear hk k)
              | ((first | refine RS.st fun A B hA hB => ?_ | refine RQ.st fun A B hA hB => ?_); simp [h1, h4, h6, h9, h10, h11, hg0, hg1, hg2, hnx, hnx0, hnx1, h12, hlt, hi, hbi, hl, hwi, hlcs, k2b, k3b, onW_t, onW_f, onV_s]; first | ((first | refine hA _ _ _ ?_ ?_ | refine hA _ _ _ ?_ (by first | exact .inl rfl | exact .inr (by decide)) ?_); (focus (simp [h1, h4, h6, h9, h10, h11, hg0, hg1, hg2, hnx, hnx0, hnx1, h12, hlt, hi, hbi, hl, hwi, hlcs, k2b, k3b] <;> omega)); clear hA hB A B) | (refine hB ?_; clear hA hB A B) | (refine onV_if ?_ ?_; (focus (first | omega | (refine ⟨?_, ?_⟩ <;> omega))); simp only [onV_s]; (first | refine hA _ _ _ ?_ ?_ | refine hA _ _ _ ?_ (by first | exact .inl rfl | exact .inr (by decide)) ?_); (focus (simp [h1, h4, h6, h9, h10, h11, hg0, hg1, hg2, hnx, hnx0, hnx1, h12, hlt, hi, hbi, hl, hwi, hlcs, k2b, k3b] <;> omega)); clear hA hB A B))
              | (refine RQ.nl ?_; refine hk _ _ ?_; clear hk k)
              | refine WP.sr fun k hk => ?_ | refine WP.r fun k hk => ?_
              | refine WP.sd _ rfl fun k hk => ?_ | refine WP.d _ rfl fun k hk => ?_
              | (refine WP.cc fun A B hA hB => ?_; simp [h1, h4, h6, h9, h10, h11, hg0, hg1, hg2, hnx, hnx0, hnx1, h12, hlt, hi, hbi, hl, hwi, hlcs, k2b, k3b, onB_t, onB_f]; first | (refine hA ?_; clear hA hB A B) | (refine hB ?_; clear hA hB A B) | (refine onB_if (fun h => hA ?_) (fun h => hB ?_) <;> clear hA hB A B))
              | refine WP.q ?_ | refine WP.b ?_)
            exact ⟨n - 1, by omega, i + 1, by omega, by simp [h1], by simp [h4], by simp [h6], by simp [h9], by simp [h10], by simp [h11], by simp, hg0, hg1, hg2, hnx, hnp2 (by omega)⟩
          · have k3b : (l.kind != 3) = true := by simp [k3]
            by_cases k1 : l.kind = 1
            · have k1b : (l.kind != 1) = false := by simp [k1]
              rw [hfp ⟨l, hmem, k1⟩] at hQc
              repeat' (first
                | refine WP.t ?_ | refine WP.k ?_ | refine WP.e ?_ | refine Qn ?_ | refine Qr ?_ | refine Qe ?_ | refine Bn ?_ | refine Br ?_ | refine Be ?_ | refine Bx (by decide) ?_
                | (refine RS.nl ?_; refine hk _ _ ?_; clear hk k)
                | ((first | refine RS.st fun A B hA hB => ?_ | refine RQ.st fun A B hA hB => ?_); simp [h1, h4, h6, h9, h10, h11, hg0, hg1, hg2, hnx, hnx0, hnx1, h12, hlt, hi, hbi, hl, hwi, hlcs, k1b, k2b, k3b, hQc, onW_t, onW_f, onV_s]; first | ((first | refine hA _ _ _ ?_ ?_ | refine hA _ _ _ ?_ (by first | exact .inl rfl | exact .inr (by decide)) ?_); (focus (simp [h1, h4, h6, h9, h10, h11, hg0, hg1, hg2, hnx, hnx0, hnx1, h12, hlt, hi, hbi, hl, hwi, hlcs, k1b, k2b, k3b, hQc] <;> omega)); clear hA hB A B) | (refine hB ?_; clear hA hB A B) | (refine onV_if ?_ ?_; (focus (first | omega | (refine ⟨?_, ?_⟩ <;> omega))); simp only [onV_s]; (first | refine hA _ _ _ ?_ ?_ | refine hA _ _ _ ?_ (by first | exact .inl rfl | exact .inr (by decide)) ?_); (focus (simp [h1, h4, h6, h9, h10, h11, hg0, hg1, hg2, hnx, hnx0, hnx1, h12, hlt, hi, hbi, hl, hwi, hlcs, k1b, k2b, k3b, hQc] <;> omega)); clear hA hB A B))
                | (refine RQ.nl ?_; refine hk _ _ ?_; clear hk k)
                | refine WP.sr fun k hk => ?_ | refine WP.r fun k hk => ?_
                | refine WP.sd _ rfl fun k hk => ?_ | refine WP.d _ rfl fun k hk => ?_
                | (refine WP.cc fun A B hA hB => ?_; simp [h1, h4, h6, h9, h10, h11, hg0, hg1, hg2, hnx, hnx0, hnx1, h12, hlt, hi, hbi, hl, hwi, hlcs, k1b, k2b, k3b, hQc, onB_t, onB_f]; first | (refine hA ?_; clear hA hB A B) | (refine hB ?_; clear hA hB A B) | (refine onB_if (fun h => hA ?_) (fun h => hB ?_) <;> clear hA hB A B))
                | refine WP.q ?_ | refine WP.b ?_)
              simp
            · have k1b : (l.kind != 1) = true := by simp [k1]
              repeat' (first
                | refine WP.t ?_ | refine WP.k ?_ | refine WP.e ?_ | refine Qn ?_ | refine Qr ?_ | refine Qe ?_ | refine Bn ?_ | refine Br ?_ | refine Be ?_ | refine Bx (by decide) ?_
                | (refine RS.nl ?_; refine hk _ _ ?_; clear hk k)
                | ((first | refine RS.st fun A B hA hB => ?_ | refine RQ.st fun A B hA hB => ?_); simp [h1, h4, h6, h9, h10, h11, hg0, hg1, hg2, hnx, hnx0, hnx1, h12, hlt, hi, hbi, hl, hwi, hlcs, k1b, k2b, k3b, onW_t, onW_f, onV_s]; first | ((first | refine hA _ _ _ ?_ ?_ | refine hA _ _ _ ?_ (by first | exact .inl rfl | exact .inr (by decide)) ?_); (focus (simp [h1, h4, h6, h9, h10, h11, hg0, hg1, hg2, hnx, hnx0, hnx1, h12, hlt, hi, hbi, hl, hwi, hlcs, k1b, k2b, k3b] <;> omega)); clear hA hB A B) | (refine hB ?_; clear hA hB A B) | (refine onV_if ?_ ?_; (focus (first | omega | (refine ⟨?_, ?_⟩ <;> omega))); simp only [onV_s]; (first | refine hA _ _ _ ?_ ?_ | refine hA _ _ _ ?_ (by first | exact .inl rfl | exact .inr (by decide)) ?_); (focus (simp [h1, h4, h6, h9, h10, h11, hg0, hg1, hg2, hnx, hnx0, hnx1, h12, hlt, hi, hbi, hl, hwi, hlcs, k1b, k2b, k3b] <;> omega)); clear hA hB A B))
                | (refine RQ.nl ?_; refine hk _ _ ?_; clear hk k)
                | refine WP.sr fun k hk => ?_ | refine WP.r fun k hk => ?_
                | refine WP.sd _ rfl fun k hk => ?_ | refine WP.d _ rfl fun k hk => ?_
                | (refine WP.cc fun A B hA hB => ?_; simp [h1, h4, h6, h9, h10, h11, hg0, hg1, hg2, hnx, hnx0, hnx1, h12, hlt, hi, hbi, hl, hwi, hlcs, k1b, k2b, k3b, onB_t, onB_f]; first | (refine hA ?_; clear hA hB A B) | (refine hB ?_; clear hA hB A B) | (refine onB_if (fun h => hA ?_) (fun h => hB ?_) <;> clear hA hB A B))
                | refine WP.q ?_ | refine WP.b ?_)
              simp
      · have hlt : ¬ ((i : Int) < (r.body.length : Int)) := by omega
        rw [List.take_of_length_le (by omega)] at hnp
        have hQh := hQh hnp
        have hfa := hfa hnp
        clear hfp hi hn
        generalize heads0 r fs = hd at *
        obtain ⟨L, e⟩ := hd
        simp only at hQh hfa hho hhl
        by_cases he : e = 0
        · have heb : (e != 0) = false := by simp [he]
          have hfa := hfa he
          have htl : ∀ x ∈ L, ∀ s2, FF 9 [.sl (x.map V.cs), .sl (f.a.map V.cs)] s2 = some (.int .i64 (cmpT x f.a), s2, []) := fun x hx s2 => FF_cmp x f.a (hho x hx) (okFcS_iff.1 hfS).2 s2
          repeat' (first
            | refine WP.t ?_ | refine WP.k ?_ | refine WP.e ?_ | refine Qn ?_ | refine Qr ?_ | refine Qe ?_ | refine Bn ?_ | refine Br ?_ | refine Be ?_ | refine Bx (by decide) ?_
            | (refine RS.nl ?_; refine hk _ _ ?_; clear hk k)
            | ((first | refine RS.st fun A B hA hB => ?_ | refine RQ.st fun A B hA hB => ?_); simp [h1, h4, h6, h9, h10, h11, hg0, hg1, hg2, hnx, hnx0, hnx1, h12, hlt, hQh, heb, onW_t, onW_f, onV_s]; first | ((first | refine hA _ _ _ ?_ ?_ | refine hA _ _ _ ?_ (by first | exact .inl rfl | exact .inr (by decide)) ?_); (focus (simp [h1, h4, h6, h9, h10, h11, hg0, hg1, hg2, hnx, hnx0, hnx1, h12, hlt, hQh, heb] <;> omega)); clear hA hB A B) | (refine hB ?_; clear hA hB A B) | (refine onV_if ?_ ?_; (focus (first | omega | (refine ⟨?_, ?_⟩ <;> omega))); simp only [onV_s]; (first | refine hA _ _ _ ?_ ?_ | refine hA _ _ _ ?_ (by first | exact .inl rfl | exact .inr (by decide)) ?_); (focus (simp [h1, h4, h6, h9, h10, h11, hg0, hg1, hg2, hnx, hnx0, hnx1, h12, hlt, hQh, heb] <;> omega)); clear hA hB A B))
            | (refine RQ.nl ?_; refine hk _ _ ?_; clear hk k)
            | refine WP.sr fun k hk => ?_ | refine WP.r fun k hk => ?_
            | refine WP.sd _ rfl fun k hk => ?_ | refine WP.d _ rfl fun k hk => ?_
            | (refine WP.cc fun A B hA hB => ?_; simp [h1, h4, h6, h9, h10, h11, hg0, hg1, hg2, hnx, hnx0, hnx1, h12, hlt, hQh, heb, onB_t, onB_f]; first | (refine hA ?_; clear hA hB A B) | (refine hB ?_; clear hA hB A B) | (refine onB_if (fun h => hA ?_) (fun h => hB ?_) <;> clear hA hB A B))
            | refine WP.q ?_ | refine WP.b ?_)
          refine WP_loop (fun n T s' => ∃ (i : Nat), n + i = L.length ∧ T.get 1 = .sl (fs.map Fc.cs) ∧ T.get 4 = .ptr s.nx 0 ∧ T.get 6 = .ptr (s.nx + 1) 0 ∧ T.get 9 = .bool true ∧ T.get 10 = .int .i64 kx ∧ T.get 11 = .ptr (s.nx + 1 + 1) 0 ∧ T.get 13 = .sl (L.map Rw1) ∧ T.get 15 = .bool ((L.take i).any fun row => r.head.p == f.p && cmpT row f.a == 0) ∧ T.get 16 = .int .i64 i ∧
            s'.get s.nx = some (.var 25 [.sl (g.decls.map Dc.cs), .sl (g.rules.map Rl.cs)]) ∧ s'.get (s.nx + 1) = some (.var 29 [.str f.p, .sl (f.a.map V.cs)]) ∧ s'.get (s.nx + 1 + 1) = some (.var 40 [.str r.head.p, .sl (r.head.a.map Tm.cs), .sl (r.body.map Lit.cs)]) ∧ s.nx + 1 + 1 < s'.nx) L.length
            ⟨0, by simp, by simp [h1], by simp [h4], by simp [h6], by simp [h9], by simp [h10], by simp [h11], by simp, by simp, by simp, hg0, hg1, hg2, hnx⟩ ?_
          clear hnx0 hnx1 hg0 hg1 hg2 hnx h1 h4 h6 h9 h10 h11 h12 hlt
          rintro n T s2 ⟨i, hn, h1, h4, h6, h9, h10, h11, h13, h15, h16, hg0, hg1, hg2, hnx⟩
          have hnx0 : s.nx < s2.nx := by omega
          have hnx1 : s.nx + 1 < s2.nx := by omega
          by_cases hi : i < L.length
          · have hwi : IntKind.i64.wrap ((i : Int) + 1) = (i : Int) + 1 := wrap64 (by omega) (by omega)
            have hlt : ((i : Int) < (L.length : Int)) := by omega
            have hbi : L[i]? = some L[i] := List.getElem?_eq_getElem hi
            have htk : L.take (i + 1) = L.take i ++ [L[i]] := List.take_succ_eq_append_getElem hi
            have hcm := htl L[i] (List.getElem_mem hi)
            generalize hl : L[i] = x at *
            have hst : (List.any (L.take (i + 1)) fun row => r.head.p == f.p && cmpT row f.a == 0) = ((List.any (L.take i) fun row => r.head.p == f.p && cmpT row f.a == 0) || (r.head.p == f.p && cmpT x f.a == 0)) := by rw [htk, List.any_append]; simp
            generalize (List.any (L.take i) fun row => r.head.p == f.p && cmpT row f.a == 0) = a0 at *
            cases a0 with
            | true =>
              repeat' (first
                | refine WP.t ?_ | refine WP.k ?_ | refine WP.e ?_ | refine Qn ?_ | refine Qr ?_ | refine Qe ?_ | refine Bn ?_ | refine Br ?_ | refine Be ?_ | refine Bx (by decide) ?_
                | (refine RS.nl ?_; refine hk _ _ ?_; clear hk k)
                | ((first | refine RS.st fun A B hA hB => ?_ | refine RQ.st fun A B hA hB => ?_); simp [h1, h4, h6, h9, h10, h11, hg0, hg1, hg2, hnx, hnx0, hnx1, h13, h15, h16, hlt, hi, hbi, hl, hwi, Rw1, onW_t, onW_f, onV_s]; first | ((first | refine hA _ _ _ ?_ ?_ | refine hA _ _ _ ?_ (by first | exact .inl rfl | exact .inr (by decide)) ?_); (focus (simp [h1, h4, h6, h9, h10, h11, hg0, hg1, hg2, hnx, hnx0, hnx1, h13, h15, h16, hlt, hi, hbi, hl, hwi, Rw1] <;> omega)); clear hA hB A B) | (refine hB ?_; clear hA hB A B) | (refine onV_if ?_ ?_; (focus (first | omega | (refine ⟨?_, ?_⟩ <;> omega))); simp only [onV_s]; (first | refine hA _ _ _ ?_ ?_ | refine hA _ _ _ ?_ (by first | exact .inl rfl | exact .inr (by decide)) ?_); (focus (simp [h1, h4, h6, h9, h10, h11, hg0, hg1, hg2, hnx, hnx0, hnx1, h13, h15, h16, hlt, hi, hbi, hl, hwi, Rw1] <;> omega)); clear hA hB A B))
                | (refine RQ.nl ?_; refine hk _ _ ?_; clear hk k)
                | refine WP.sr fun k hk => ?_ | refine WP.r fun k hk => ?_
                | refine WP.sd _ rfl fun k hk => ?_ | refine WP.d _ rfl fun k hk => ?_
                | (refine WP.cc fun A B hA hB => ?_; simp [h1, h4, h6, h9, h10, h11, hg0, hg1, hg2, hnx, hnx0, hnx1, h13, h15, h16, hlt, hi, hbi, hl, hwi, Rw1, onB_t, onB_f]; first | (refine hA ?_; clear hA hB A B) | (refine hB ?_; clear hA hB A B) | (refine onB_if (fun h => hA ?_) (fun h => hB ?_) <;> clear hA hB A B))
                | refine WP.q ?_ | refine WP.b ?_)
              exact ⟨n - 1, by omega, i + 1, by omega, by simp [h1], by simp [h4], by simp [h6], by simp [h9], by simp [h10], by simp [h11], by simp [h13], by rw [hst]; simp, by simp, hg0, hg1, hg2, hnx⟩
            | false =>
              cases hpp : (r.head.p == f.p) with
              | false =>
                rw [hpp] at hst
                repeat' (first
                  | refine WP.t ?_ | refine WP.k ?_ | refine WP.e ?_ | refine Qn ?_ | refine Qr ?_ | refine Qe ?_ | refine Bn ?_ | refine Br ?_ | refine Be ?_ | refine Bx (by decide) ?_
                  | (refine RS.nl ?_; refine hk _ _ ?_; clear hk k)
                  | ((first | refine RS.st fun A B hA hB => ?_ | refine RQ.st fun A B hA hB => ?_); simp [h1, h4, h6, h9, h10, h11, hg0, hg1, hg2, hnx, hnx0, hnx1, h13, h15, h16, hlt, hi, hbi, hl, hwi, Rw1, hpp, onW_t, onW_f, onV_s]; first | ((first | refine hA _ _ _ ?_ ?_ | refine hA _ _ _ ?_ (by first | exact .inl rfl | exact .inr (by decide)) ?_); (focus (simp [h1, h4, h6, h9, h10, h11, hg0, hg1, hg2, hnx, hnx0, hnx1, h13, h15, h16, hlt, hi, hbi, hl, hwi, Rw1, hpp] <;> omega)); clear hA hB A B) | (refine hB ?_; clear hA hB A B) | (refine onV_if ?_ ?_; (focus (first | omega | (refine ⟨?_, ?_⟩ <;> omega))); simp only [onV_s]; (first | refine hA _ _ _ ?_ ?_ | refine hA _ _ _ ?_ (by first | exact .inl rfl | exact .inr (by decide)) ?_); (focus (simp [h1, h4, h6, h9, h10, h11, hg0, hg1, hg2, hnx, hnx0, hnx1, h13, h15, h16, hlt, hi, hbi, hl, hwi, Rw1, hpp] <;> omega)); clear hA hB A B))
                  | (refine RQ.nl ?_; refine hk _ _ ?_; clear hk k)
                  | refine WP.sr fun k hk => ?_ | refine WP.r fun k hk => ?_
                  | refine WP.sd _ rfl fun k hk => ?_ | refine WP.d _ rfl fun k hk => ?_
                  | (refine WP.cc fun A B hA hB => ?_; simp [h1, h4, h6, h9, h10, h11, hg0, hg1, hg2, hnx, hnx0, hnx1, h13, h15, h16, hlt, hi, hbi, hl, hwi, Rw1, hpp, onB_t, onB_f]; first | (refine hA ?_; clear hA hB A B) | (refine hB ?_; clear hA hB A B) | (refine onB_if (fun h => hA ?_) (fun h => hB ?_) <;> clear hA hB A B))
                  | refine WP.q ?_ | refine WP.b ?_)
                exact ⟨n - 1, by omega, i + 1, by omega, by simp [h1], by simp [h4], by simp [h6], by simp [h9], by simp [h10], by simp [h11], by simp [h13], by rw [hst]; simp, by simp, hg0, hg1, hg2, hnx⟩
              | true =>
                rw [hpp] at hst
                repeat' (first
                  | refine WP.t ?_ | refine WP.k ?_ | refine WP.e ?_ | refine Qn ?_ | refine Qr ?_ | refine Qe ?_ | refine Bn ?_ | refine Br ?_ | refine Be ?_ | refine Bx (by decide) ?_
                  | (refine RS.nl ?_; refine hk _ _ ?_; clear hk k)
                  | ((first | refine RS.st fun A B hA hB => ?_ | refine RQ.st fun A B hA hB => ?_); simp [h1, h4, h6, h9, h10, h11, hg0, hg1, hg2, hnx, hnx0, hnx1, h13, h15, h16, hlt, hi, hbi, hl, hwi, Rw1, hpp, hcm, onW_t, onW_f, onV_s]; first | ((first | refine hA _ _ _ ?_ ?_ | refine hA _ _ _ ?_ (by first | exact .inl rfl | exact .inr (by decide)) ?_); (focus (simp [h1, h4, h6, h9, h10, h11, hg0, hg1, hg2, hnx, hnx0, hnx1, h13, h15, h16, hlt, hi, hbi, hl, hwi, Rw1, hpp, hcm] <;> omega)); clear hA hB A B) | (refine hB ?_; clear hA hB A B) | (refine onV_if ?_ ?_; (focus (first | omega | (refine ⟨?_, ?_⟩ <;> omega))); simp only [onV_s]; (first | refine hA _ _ _ ?_ ?_ | refine hA _ _ _ ?_ (by first | exact .inl rfl | exact .inr (by decide)) ?_); (focus (simp [h1, h4, h6, h9, h10, h11, hg0, hg1, hg2, hnx, hnx0, hnx1, h13, h15, h16, hlt, hi, hbi, hl, hwi, Rw1, hpp, hcm] <;> omega)); clear hA hB A B))
                  | (refine RQ.nl ?_; refine hk _ _ ?_; clear hk k)
                  | refine WP.sr fun k hk => ?_ | refine WP.r fun k hk => ?_
                  | refine WP.sd _ rfl fun k hk => ?_ | refine WP.d _ rfl fun k hk => ?_
                  | (refine WP.cc fun A B hA hB => ?_; simp [h1, h4, h6, h9, h10, h11, hg0, hg1, hg2, hnx, hnx0, hnx1, h13, h15, h16, hlt, hi, hbi, hl, hwi, Rw1, hpp, hcm, onB_t, onB_f]; first | (refine hA ?_; clear hA hB A B) | (refine hB ?_; clear hA hB A B) | (refine onB_if (fun h => hA ?_) (fun h => hB ?_) <;> clear hA hB A B))
                  | refine WP.q ?_ | refine WP.b ?_)
                exact ⟨n - 1, by omega, i + 1, by omega, by simp [h1], by simp [h4], by simp [h6], by simp [h9], by simp [h10], by simp [h11], by simp [h13], by rw [hst]; simp, by simp, hg0, hg1, hg2, hnx⟩
          · have hlt : ¬ ((i : Int) < (L.length : Int)) := by omega
            rw [List.take_of_length_le (by omega)] at h15
            rw [hfa] at hQc
            generalize (List.any L fun row => r.head.p == f.p && cmpT row f.a == 0) = told at *
            cases told with
            | true =>
              repeat' (first
                | refine WP.t ?_ | refine WP.k ?_ | refine WP.e ?_ | refine Qn ?_ | refine Qr ?_ | refine Qe ?_ | refine Bn ?_ | refine Br ?_ | refine Be ?_ | refine Bx (by decide) ?_
                | (refine RS.nl ?_; refine hk _ _ ?_; clear hk k)
                | ((first | refine RS.st fun A B hA hB => ?_ | refine RQ.st fun A B hA hB => ?_); simp [h1, h4, h6, h9, h10, h11, hg0, hg1, hg2, hnx, hnx0, hnx1, h13, h15, h16, hlt, hQc, onW_t, onW_f, onV_s]; first | ((first | refine hA _ _ _ ?_ ?_ | refine hA _ _ _ ?_ (by first | exact .inl rfl | exact .inr (by decide)) ?_); (focus (simp [h1, h4, h6, h9, h10, h11, hg0, hg1, hg2, hnx, hnx0, hnx1, h13, h15, h16, hlt, hQc] <;> omega)); clear hA hB A B) | (refine hB ?_; clear hA hB A B) | (refine onV_if ?_ ?_; (focus (first | omega | (refine ⟨?_, ?_⟩ <;> omega))); simp only [onV_s]; (first | refine hA _ _ _ ?_ ?_ | refine hA _ _ _ ?_ (by first | exact .inl rfl | exact .inr (by decide)) ?_); (focus (simp [h1, h4, h6, h9, h10, h11, hg0, hg1, hg2, hnx, hnx0, hnx1, h13, h15, h16, hlt, hQc] <;> omega)); clear hA hB A B))
                | (refine RQ.nl ?_; refine hk _ _ ?_; clear hk k)
                | refine WP.sr fun k hk => ?_ | refine WP.r fun k hk => ?_
                | refine WP.sd _ rfl fun k hk => ?_ | refine WP.d _ rfl fun k hk => ?_
                | (refine WP.cc fun A B hA hB => ?_; simp [h1, h4, h6, h9, h10, h11, hg0, hg1, hg2, hnx, hnx0, hnx1, h13, h15, h16, hlt, hQc, onB_t, onB_f]; first | (refine hA ?_; clear hA hB A B) | (refine hB ?_; clear hA hB A B) | (refine onB_if (fun h => hA ?_) (fun h => hB ?_) <;> clear hA hB A B))
                | refine WP.q ?_ | refine WP.b ?_)
              simp
            | false =>
              repeat' (first
                | refine WP.t ?_ | refine WP.k ?_ | refine WP.e ?_ | refine Qn ?_ | refine Qr ?_ | refine Qe ?_ | refine Bn ?_ | refine Br ?_ | refine Be ?_ | refine Bx (by decide) ?_
                | (refine RS.nl ?_; refine hk _ _ ?_; clear hk k)
                | ((first | refine RS.st fun A B hA hB => ?_ | refine RQ.st fun A B hA hB => ?_); simp [h1, h4, h6, h9, h10, h11, hg0, hg1, hg2, hnx, hnx0, hnx1, h13, h15, h16, hlt, hQc, onW_t, onW_f, onV_s]; first | ((first | refine hA _ _ _ ?_ ?_ | refine hA _ _ _ ?_ (by first | exact .inl rfl | exact .inr (by decide)) ?_); (focus (simp [h1, h4, h6, h9, h10, h11, hg0, hg1, hg2, hnx, hnx0, hnx1, h13, h15, h16, hlt, hQc] <;> omega)); clear hA hB A B) | (refine hB ?_; clear hA hB A B) | (refine onV_if ?_ ?_; (focus (first | omega | (refine ⟨?_, ?_⟩ <;> omega))); simp only [onV_s]; (first | refine hA _ _ _ ?_ ?_ | refine hA _ _ _ ?_ (by first | exact .inl rfl | exact .inr (by decide)) ?_); (focus (simp [h1, h4, h6, h9, h10, h11, hg0, hg1, hg2, hnx, hnx0, hnx1, h13, h15, h16, hlt, hQc] <;> omega)); clear hA hB A B))
                | (refine RQ.nl ?_; refine hk _ _ ?_; clear hk k)
                | refine WP.sr fun k hk => ?_ | refine WP.r fun k hk => ?_
                | refine WP.sd _ rfl fun k hk => ?_ | refine WP.d _ rfl fun k hk => ?_
                | (refine WP.cc fun A B hA hB => ?_; simp [h1, h4, h6, h9, h10, h11, hg0, hg1, hg2, hnx, hnx0, hnx1, h13, h15, h16, hlt, hQc, onB_t, onB_f]; first | (refine hA ?_; clear hA hB A B) | (refine hB ?_; clear hA hB A B) | (refine onB_if (fun h => hA ?_) (fun h => hB ?_) <;> clear hA hB A B))
                | refine WP.q ?_ | refine WP.b ?_)
              simp
        · have heb : (e != 0) = true := by simp [he]
          repeat' (first
            | refine WP.t ?_ | refine WP.k ?_ | refine WP.e ?_ | refine Qn ?_ | refine Qr ?_ | refine Qe ?_ | refine Bn ?_ | refine Br ?_ | refine Be ?_ | refine Bx (by decide) ?_
            | (refine RS.nl ?_; refine hk _ _ ?_; clear hk k)
            | ((first | refine RS.st fun A B hA hB => ?_ | refine RQ.st fun A B hA hB => ?_); simp [h1, h4, h6, h9, h10, h11, hg0, hg1, hg2, hnx, hnx0, hnx1, h12, hlt, hQh, heb, onW_t, onW_f, onV_s]; first | ((first | refine hA _ _ _ ?_ ?_ | refine hA _ _ _ ?_ (by first | exact .inl rfl | exact .inr (by decide)) ?_); (focus (simp [h1, h4, h6, h9, h10, h11, hg0, hg1, hg2, hnx, hnx0, hnx1, h12, hlt, hQh, heb] <;> omega)); clear hA hB A B) | (refine hB ?_; clear hA hB A B) | (refine onV_if ?_ ?_; (focus (first | omega | (refine ⟨?_, ?_⟩ <;> omega))); simp only [onV_s]; (first | refine hA _ _ _ ?_ ?_ | refine hA _ _ _ ?_ (by first | exact .inl rfl | exact .inr (by decide)) ?_); (focus (simp [h1, h4, h6, h9, h10, h11, hg0, hg1, hg2, hnx, hnx0, hnx1, h12, hlt, hQh, heb] <;> omega)); clear hA hB A B))
            | (refine RQ.nl ?_; refine hk _ _ ?_; clear hk k)
            | refine WP.sr fun k hk => ?_ | refine WP.r fun k hk => ?_
            | refine WP.sd _ rfl fun k hk => ?_ | refine WP.d _ rfl fun k hk => ?_
            | (refine WP.cc fun A B hA hB => ?_; simp [h1, h4, h6, h9, h10, h11, hg0, hg1, hg2, hnx, hnx0, hnx1, h12, hlt, hQh, heb, onB_t, onB_f]; first | (refine hA ?_; clear hA hB A B) | (refine hB ?_; clear hA hB A B) | (refine onB_if (fun h => hA ?_) (fun h => hB ?_) <;> clear hA hB A B))
            | refine WP.q ?_ | refine WP.b ?_)
          simp
end
end Go.Am
