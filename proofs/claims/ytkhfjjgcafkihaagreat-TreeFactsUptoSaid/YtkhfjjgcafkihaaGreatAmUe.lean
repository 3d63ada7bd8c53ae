/- Part of the proof: abstract values over the given model of Go (U15, U16, U17). Conditions: none of its own; see the statement in the seat's Rows text. -/
import Derived.Test.YtkhfjjgcafkihaaGreatAmUd
import Derived.Test.YtkhfjjgcafkihaaGreatAmSix
set_option linter.unusedSimpArgs false
set_option linter.unusedVariables false
set_option linter.unusedSectionVars false
namespace Go.Am
open Go.Proofs
def okPg (g : Pg) : Bool := decide (g.rules.length < MB) && g.rules.all okRl
theorem okPg_iff {g : Pg} : okPg g = true ↔ g.rules.length < MB ∧ ∀ r ∈ g.rules, okRl r = true := by simp [okPg]
theorem solveL_len : ∀ {b : List Lit} {l l' : List Nd} {e e' : Envr}, solveL b l e = some (e', l') → e'.length ≤ e.length + wL b
  | [], l, l', e, e', h => by cases h; simp [wL]
  | x :: b, l, l', e, e', h => by
    simp only [solveL] at h
    have hw : wL (x :: b) = x.atom.a.length + wL b := by simp only [wL, List.map_cons, List.sum_cons]
    split at h
    · split at h
      · cases h
      · split at h
        · split at h
          · cases h
          · rename_i hm
            have h1 := matchE_len hm
            have h2 := solveL_len h
            omega
        · cases h
    · have h2 := solveL_len h
      omega
theorem solvedT_len (r : Rl) (n : Nd) : (solvedT r n).1.length ≤ r.head.a.length + wL r.body := by
  unfold solvedT
  split
  · simp
  · rename_i hm
    have h1 := matchE_len hm
    split
    · split
      · simp
      · rename_i hs
        have h2 := solveL_len hs
        simp at h1 ⊢
        omega
    · simp
def standsE (g : Pg) (fs : List Fc) (n : Nd) : Bool :=
  if n.r < 0 then false else match g.rules[n.r.toNat]? with
    | none => false
    | some r => (solvedT r n).2 && !(r.body.any fun l => !holdsL l fs (solvedT r n).1)
section
variable {K : Nat} {gw : World} {s : St}
attribute [local simp] awanted xop zOf cz zrow aop ev T0 Slots.put Slots.set Slots.get awr WOk AV.may ofConst abinop aint isConst St.get_push St.get_put St.live AV.fit AV.cells AV.one fieldOf afieldAddr aload ofCells astore splice May eqres env_ti FinP FinZ FinW ares aresL ares1 Fns.addP Fns.add Fns.a0 Fns.a1 Fns.a2 Fns.a3 Fns.a4 abuiltin alenOk alen aindex elemOfT elemId abuildSlice afill chunks ard aappend isSS AV.isStr aminmax placesOf abuild afield aidx isStrD isStrDesc astrop aslice asliceOk abound arange anext aextract aunop aeq AV.ck avseq aveq aconv aconvert onB_t onB_f List.range_succ
theorem F22_match : ∀ xs s, F22 88 xs s = F12 88 xs s := fun xs s => by simp [F22, F21, F20, F19, F18, F17, F16, F15, F14, F13, Fns.addN]
noncomputable def F23 : Fns := F22.addP 63 fun xs => match xs with
  | [.agg c, .agg d] => match cRl.un c, cNd.un d with
    | some r, some n => if okRl r = true ∧ n.f.a.length < MB ∧ okK n.k = true then some (tupSol (solvedT r n)) else none
    | _, _ => none
  | _ => none
theorem F23_ok : FOk (env K gw) F23 := by
  refine F22_ok.addP fun xs s r h => ?_
  split at h
  · split at h
    · rename_i hc hd
      split at h
      · rename_i hl
        cases h
        rw [cRl.cs_un _ _ hc, cNd.cs_un _ _ hd]
        exact ft_solved _ _ hl.1 hl.2.1 hl.2.2
      · cases h
    · cases h
  · cases h
theorem F23_solved (r : Rl) (n : Nd) (hr : okRl r = true) (hn : n.f.a.length < MB) (hk : okK n.k = true) (s2 : St) : F23 63 [.agg r.cs, .agg n.cs] s2 = some (tupSol (solvedT r n), s2, []) := by
  have h1 : cRl.un r.cs = some r := cRl.un_cs r
  have h2 : cNd.un n.cs = some n := cNd.un_cs n
  simp [F23, h1, h2, hr, hn, hk]
set_option maxRecDepth 20000 in
set_option maxHeartbeats 8000000 in
theorem ft_stands (g : Pg) (fs : List Fc) (n : Nd) (hg : okPg g = true) (hfs : okFs fs = true) (hn : n.f.a.length < MB) (hk : okK n.k = true) : FT (env K gw) NoW 38 [.agg g.cs, .sl (fs.map Fc.cs), .agg n.cs] s (.bool (standsE g fs n)) s := by
  rw [okPg_iff] at hg
  have hcs := Nd.cs_eq n
  have hgcs : g.cs = [.sl (g.decls.map Dc.cs), .sl (g.rules.map Rl.cs)] := rfl
  refine FT.pure (fn := Tryz.f38) F23_ok mixed Tryz.func38 (by kernel_rfl) (by rfl) rfl rfl (by simp) rfl fun μ w => ?_
  by_cases hneg : n.r < 0
  · have hd : standsE g fs n = false := by unfold standsE; rw [if_pos hneg]
    rw [hd]
    repeat' (first
      | refine WP.t ?_ | refine WP.k ?_ | refine WP.e ?_ | refine Qn ?_ | refine Qr ?_ | refine Qe ?_ | refine Bn ?_ | refine Br ?_ | refine Be ?_ | refine Bx (by decide) ?_
      | (refine RS.nl ?_; refine hk _ _ ?_; clear hk k)
      | ((first | refine RS.st fun A B hA hB => ?_ | refine RQ.st fun A B hA hB => ?_); simp [hcs, hgcs, hneg, onW_t, onW_f, onV_s]; first | ((first | refine hA _ _ _ ?_ ?_ | refine hA _ _ _ ?_ (by first | exact .inl rfl | exact .inr (by decide)) ?_); (focus (simp [hcs, hgcs, hneg] <;> omega)); clear hA hB A B) | (refine hB ?_; clear hA hB A B) | (refine onV_if ?_ ?_; (focus (first | omega | (refine ⟨?_, ?_⟩ <;> omega))); simp only [onV_s]; (first | refine hA _ _ _ ?_ ?_ | refine hA _ _ _ ?_ (by first | exact .inl rfl | exact .inr (by decide)) ?_); (focus (simp [hcs, hgcs, hneg] <;> omega)); clear hA hB A B))
      | (refine RQ.nl ?_; refine hk _ _ ?_; clear hk k)
      | refine WP.sr fun k hk => ?_ | refine WP.r fun k hk => ?_
      | refine WP.sd _ rfl fun k hk => ?_ | refine WP.d _ rfl fun k hk => ?_
      | (refine WP.cc fun A B hA hB => ?_; simp [hcs, hgcs, hneg, onB_t, onB_f]; first | (refine hA ?_; clear hA hB A B) | (refine hB ?_; clear hA hB A B) | (refine onB_if (fun h => hA ?_) (fun h => hB ?_) <;> clear hA hB A B))
      | refine WP.q ?_ | refine WP.b ?_)
    simp
  · obtain ⟨j, hj⟩ := Int.eq_ofNat_of_zero_le (Int.not_lt.1 hneg)
    have hd : standsE g fs n = match g.rules[j]? with
        | none => false
        | some r => (solvedT r n).2 && !(r.body.any fun l => !holdsL l fs (solvedT r n).1) := by
      unfold standsE
      rw [if_neg hneg, hj, Int.toNat_natCast]
    rw [hj] at hcs
    have hneg' : ¬ ((j : Int) < 0) := by omega
    cases hr : g.rules[j]? with
    | none =>
      have hle : g.rules.length ≤ j := List.getElem?_eq_none_iff.1 hr
      have hge : ((g.rules.length : Nat) : Int) ≤ (j : Int) := by omega
      rw [hr] at hd
      rw [hd]
      repeat' (first
        | refine WP.t ?_ | refine WP.k ?_ | refine WP.e ?_ | refine Qn ?_ | refine Qr ?_ | refine Qe ?_ | refine Bn ?_ | refine Br ?_ | refine Be ?_ | refine Bx (by decide) ?_
        | (refine RS.nl ?_; refine hk _ _ ?_; clear hk k)
        | ((first | refine RS.st fun A B hA hB => ?_ | refine RQ.st fun A B hA hB => ?_); simp [hcs, hgcs, hneg', hge, hle, onW_t, onW_f, onV_s]; first | ((first | refine hA _ _ _ ?_ ?_ | refine hA _ _ _ ?_ (by first | exact .inl rfl | exact .inr (by decide)) ?_); (focus (simp [hcs, hgcs, hneg', hge, hle] <;> omega)); clear hA hB A B) | (refine hB ?_; clear hA hB A B) | (refine onV_if ?_ ?_; (focus (first | omega | (refine ⟨?_, ?_⟩ <;> omega))); simp only [onV_s]; (first | refine hA _ _ _ ?_ ?_ | refine hA _ _ _ ?_ (by first | exact .inl rfl | exact .inr (by decide)) ?_); (focus (simp [hcs, hgcs, hneg', hge, hle] <;> omega)); clear hA hB A B))
        | (refine RQ.nl ?_; refine hk _ _ ?_; clear hk k)
        | refine WP.sr fun k hk => ?_ | refine WP.r fun k hk => ?_
        | refine WP.sd _ rfl fun k hk => ?_ | refine WP.d _ rfl fun k hk => ?_
        | (refine WP.cc fun A B hA hB => ?_; simp [hcs, hgcs, hneg', hge, hle, onB_t, onB_f]; first | (refine hA ?_; clear hA hB A B) | (refine hB ?_; clear hA hB A B) | (refine onB_if (fun h => hA ?_) (fun h => hB ?_) <;> clear hA hB A B))
        | refine WP.q ?_ | refine WP.b ?_)
      simp
    | some r =>
      obtain ⟨hjl, hjr⟩ := List.getElem?_eq_some_iff.1 hr
      have hge : ¬ ((g.rules.length : Nat) : Int) ≤ (j : Int) := by omega
      have hok := hg.2 r (List.mem_of_getElem? hr)
      have hok' := okRl_iff.1 hok
      have hsl := solvedT_len r n
      rw [hr] at hd
      simp only at hd
      rw [hd]
      clear hd
      have hsol := F23_solved r n hok hn hk
      simp only [hcs, Rl.cs, tupSol] at hsol
      generalize solvedT r n = st at *
      obtain ⟨e, ok⟩ := st
      simp only at hsl hsol ⊢
      cases ok with
      | false =>
        repeat' (first
          | refine WP.t ?_ | refine WP.k ?_ | refine WP.e ?_ | refine Qn ?_ | refine Qr ?_ | refine Qe ?_ | refine Bn ?_ | refine Br ?_ | refine Be ?_ | refine Bx (by decide) ?_
          | (refine RS.nl ?_; refine hk _ _ ?_; clear hk k)
          | ((first | refine RS.st fun A B hA hB => ?_ | refine RQ.st fun A B hA hB => ?_); simp [hcs, hgcs, hneg', hge, hjl, hr, hjr, hsol, Rl.cs, onW_t, onW_f, onV_s]; first | ((first | refine hA _ _ _ ?_ ?_ | refine hA _ _ _ ?_ (by first | exact .inl rfl | exact .inr (by decide)) ?_); (focus (simp [hcs, hgcs, hneg', hge, hjl, hr, hjr, hsol, Rl.cs] <;> omega)); clear hA hB A B) | (refine hB ?_; clear hA hB A B) | (refine onV_if ?_ ?_; (focus (first | omega | (refine ⟨?_, ?_⟩ <;> omega))); simp only [onV_s]; (first | refine hA _ _ _ ?_ ?_ | refine hA _ _ _ ?_ (by first | exact .inl rfl | exact .inr (by decide)) ?_); (focus (simp [hcs, hgcs, hneg', hge, hjl, hr, hjr, hsol, Rl.cs] <;> omega)); clear hA hB A B))
          | (refine RQ.nl ?_; refine hk _ _ ?_; clear hk k)
          | refine WP.sr fun k hk => ?_ | refine WP.r fun k hk => ?_
          | refine WP.sd _ rfl fun k hk => ?_ | refine WP.d _ rfl fun k hk => ?_
          | (refine WP.cc fun A B hA hB => ?_; simp [hcs, hgcs, hneg', hge, hjl, hr, hjr, hsol, Rl.cs, onB_t, onB_f]; first | (refine hA ?_; clear hA hB A B) | (refine hB ?_; clear hA hB A B) | (refine onB_if (fun h => hA ?_) (fun h => hB ?_) <;> clear hA hB A B))
          | refine WP.q ?_ | refine WP.b ?_)
        simp
      | true =>
        have hcon := fun (s2 : St) h1 h2 h3 h4 => F22_con (s2 := s2) r.body fs e (s.nx + 1) (s.nx + 1 + 1 + 1 + 1) h1 h2 h3 h4 hok'.2 (by omega) hfs (by simp only [LIM, MB] at *; omega)
        generalize hsA : (((((((s.push (.var 25 g.cs)).push (.var 26 [.sl (fs.map Fc.cs)])).push (.var 34 n.cs)).push (.var 40 [.str [], .nsl, .nsl])).put (s.nx + 1 + 1 + 1) (.var 40 r.cs)).push (.var 126 [.nsl])).put (s.nx + 1 + 1 + 1 + 1) (.var 126 [.sl (e.map Pr.cs)])) = sA
        have hc2 := hcon sA (by rw [← hsA]; simp) (by rw [← hsA]; simp) (by rw [← hsA]; simp) (by rw [← hsA]; simp)
        have hA3 : sA.get (s.nx + 1 + 1 + 1) = some (.var 40 r.cs) := by rw [← hsA]; simp
        have hAn : sA.nx = s.nx + 1 + 1 + 1 + 1 + 1 := by rw [← hsA]; simp
        clear hcon
        simp only [hcs, hgcs, Rl.cs] at hsA
        simp only [Rl.cs] at hA3
        have hc3 : F23 64 [.sl (r.body.map Lit.cs), .fn (.func 65) [] [.ptr (s.nx + 1) 0, .ptr (s.nx + 1 + 1 + 1 + 1) 0]] sA = some (.bool (r.body.any fun l => !holdsL l fs e), sA, []) := by rw [← hc2]; simp [F23]
        repeat' (first
          | refine WP.t ?_ | refine WP.k ?_ | refine WP.e ?_ | refine Qn ?_ | refine Qr ?_ | refine Qe ?_ | refine Bn ?_ | refine Br ?_ | refine Be ?_ | refine Bx (by decide) ?_
          | (refine RS.nl ?_; refine hk _ _ ?_; clear hk k)
          | ((first | refine RS.st fun A B hA hB => ?_ | refine RQ.st fun A B hA hB => ?_); simp [hcs, hgcs, hneg', hge, hjl, hr, hjr, hsol, Rl.cs, hsA, hc3, hA3, hAn, onW_t, onW_f, onV_s]; first | ((first | refine hA _ _ _ ?_ ?_ | refine hA _ _ _ ?_ (by first | exact .inl rfl | exact .inr (by decide)) ?_); (focus (simp [hcs, hgcs, hneg', hge, hjl, hr, hjr, hsol, Rl.cs, hsA, hc3, hA3, hAn] <;> omega)); clear hA hB A B) | (refine hB ?_; clear hA hB A B) | (refine onV_if ?_ ?_; (focus (first | omega | (refine ⟨?_, ?_⟩ <;> omega))); simp only [onV_s]; (first | refine hA _ _ _ ?_ ?_ | refine hA _ _ _ ?_ (by first | exact .inl rfl | exact .inr (by decide)) ?_); (focus (simp [hcs, hgcs, hneg', hge, hjl, hr, hjr, hsol, Rl.cs, hsA, hc3, hA3, hAn] <;> omega)); clear hA hB A B))
          | (refine RQ.nl ?_; refine hk _ _ ?_; clear hk k)
          | refine WP.sr fun k hk => ?_ | refine WP.r fun k hk => ?_
          | refine WP.sd _ rfl fun k hk => ?_ | refine WP.d _ rfl fun k hk => ?_
          | (refine WP.cc fun A B hA hB => ?_; simp [hcs, hgcs, hneg', hge, hjl, hr, hjr, hsol, Rl.cs, hsA, hc3, hA3, hAn, onB_t, onB_f]; first | (refine hA ?_; clear hA hB A B) | (refine hB ?_; clear hA hB A B) | (refine onB_if (fun h => hA ?_) (fun h => hB ?_) <;> clear hA hB A B))
          | refine WP.q ?_ | refine WP.b ?_)
        simp
end
end Go.Am
namespace Go.Am
open Go.Proofs
mutual
def provesE (g : Pg) (fs : List Fc) : Nd → List Fc → Bool
  | .mk f r k, ab => !(ab.any fun x => cmpF x f == 0) && standsE g fs (.mk f r k) && provesL g fs k (ab ++ [f])
def provesL (g : Pg) (fs : List Fc) : List Nd → List Fc → Bool
  | [], _ => true
  | n :: l, ab => provesE g fs n ab && provesL g fs l ab
end
theorem provesL_eq (g : Pg) (fs : List Fc) (l : List Nd) (ab : List Fc) : provesL g fs l ab = l.all fun k => provesE g fs k ab := by
  induction l with
  | nil => simp [provesL]
  | cons n l ih => simp [provesL, ih]
theorem provesE_eq (g : Pg) (fs : List Fc) (n : Nd) (ab : List Fc) : provesE g fs n ab = (!(ab.any fun x => cmpF x n.f == 0) && standsE g fs n && n.k.all fun k => provesE g fs k (ab ++ [n.f])) := by
  obtain ⟨f, r, k⟩ := n
  simp [provesE, provesL_eq, Nd.f, Nd.k]
mutual
def deepE : Nd → Nat
  | .mk _ _ k => deepL k + 1
def deepL : List Nd → Nat
  | [] => 0
  | n :: l => max (deepE n) (deepL l)
end
theorem deepL_mem {l : List Nd} {n : Nd} (h : n ∈ l) : deepE n ≤ deepL l := by
  induction l with
  | nil => cases h
  | cons x l ih =>
    simp only [deepL]
    rcases List.mem_cons.1 h with rfl | h
    · exact Nat.le_max_left _ _
    · exact Nat.le_trans (ih h) (Nat.le_max_right _ _)
theorem deepE_eq (n : Nd) : deepE n = deepL n.k + 1 := by
  obtain ⟨f, r, k⟩ := n
  simp [deepE, Nd.k]
mutual
def okT : Nd → Bool
  | .mk f r k => decide (f.a.length < MB) && decide (k.length < MB) && okTL k
def okTL : List Nd → Bool
  | [] => true
  | n :: l => okT n && okTL l
end
theorem okTL_eq (l : List Nd) : okTL l = l.all okT := by
  induction l with
  | nil => simp [okTL]
  | cons n l ih => simp [okTL, ih]
theorem okT_iff {n : Nd} : okT n = true ↔ n.f.a.length < MB ∧ n.k.length < MB ∧ ∀ k ∈ n.k, okT k = true := by
  obtain ⟨f, r, k⟩ := n
  simp [okT, okTL_eq, Nd.f, Nd.k, and_assoc]
theorem okT_okK {n : Nd} (h : okT n = true) : okK n.k = true := okK_iff.2 ⟨(okT_iff.1 h).2.1, fun k hk => (okT_iff.1 ((okT_iff.1 h).2.2 k hk)).1⟩
/-- Facts, wherever they lie. -/
def ardF (s : St) : AV → Option (List Fc)
  | .sl d => unL cFc d
  | .nsl => some []
  | .ls id 0 m => match s.get id with
    | some (.row 2 (true, 29) es) => if m = es.length then unL cFc es else none
    | _ => none
  | _ => none
open Classical in
noncomputable def gPr (N : Nat) (xs : List AV) (s : St) : Option (AV × St × List Nat) :=
  match xs with
  | [.agg a, .sl b, .agg c, x4] => match cPg.un a, unL cFc b, cNd.un c, ardF s x4 with
    | some g, some fs, some k, some ab => if SizeOf.sizeOf k < N ∧ okPg g = true ∧ okFs fs = true ∧ okT k = true ∧ okFs ab = true ∧ ab.length + deepE k < MB then some (.bool (provesE g fs k ab), s, []) else none
    | _, _, _, _ => none
  | _ => none
open Classical in
noncomputable def gP2 (N : Nat) (xs : List AV) (s : St) : Option (AV × St × List Nat) :=
  match xs with
  | [.agg c, .ptr i1 0, .ptr i2 0, .ptr i3 0] => match cNd.un c, s.get i1, s.get i2, s.get i3 with
    | some k, some (.var 25 a), some (.var 26 [.sl b]), some (.var 26 [.ls rid 0 m]) => match cPg.un a, unL cFc b, ardF s (.ls rid 0 m) with
      | some g, some fs, some ab => if (i1 < s.nx ∧ i2 < s.nx ∧ i3 < s.nx ∧ rid < s.nx) ∧ SizeOf.sizeOf k < N ∧ okPg g = true ∧ okFs fs = true ∧ okT k = true ∧ okFs ab = true ∧ ab.length + deepE k < MB then some (.bool (!provesE g fs k ab), s, []) else none
      | _, _, _ => none
    | _, _, _, _ => none
  | _ => none
section
variable {K : Nat} {gw : World} {s : St}
attribute [local simp] awanted xop zOf cz zrow aop ev T0 Slots.put Slots.set Slots.get awr WOk AV.may ofConst abinop aint isConst St.get_push St.get_put St.live AV.fit AV.cells AV.one fieldOf afieldAddr aload ofCells astore splice May eqres env_ti FinP FinZ FinW ares aresL ares1 Fns.addP Fns.add Fns.a0 Fns.a1 Fns.a2 Fns.a3 Fns.a4 abuiltin alenOk alen aindex elemOfT elemId abuildSlice afill chunks ard aappend isSS AV.isStr aminmax placesOf abuild afield aidx isStrD isStrDesc astrop aslice asliceOk abound arange anext aextract aunop aeq AV.ck avseq aveq aconv aconvert onB_t onB_f List.range_succ
/-- What is known of smaller trees. -/
def PrIH (K : Nat) (gw : World) (N : Nat) : Prop := ∀ (g : Pg) (fs : List Fc) (k : Nd) (ab : List Fc) (s : St), SizeOf.sizeOf k < N → okPg g = true → okFs fs = true → okT k = true → okFs ab = true → ab.length + deepE k < MB →
  FT (env K gw) NoW 19 [.agg g.cs, .sl (fs.map Fc.cs), .agg k.cs, .sl (ab.map Fc.cs)] s (.bool (provesE g fs k ab)) s
theorem gPr_ok {N : Nat} (ih : PrIH K gw N) (xs : List AV) (s : St) (r : AV) (s' : St) (l : List Nat) (h : gPr N xs s = some (r, s', l)) : FT (env K gw) (fun id => id ∈ l) 19 xs s r s' := by
  unfold gPr at h
  split at h
  · rename_i a b c x4
    split at h
    · rename_i g fs k ab h1 h2 h3 h4
      split at h
      · rename_i hc
        obtain ⟨hc1, hc2, hc3, hc4, hc5, hc6⟩ := hc
        cases h
        rw [noW, cPg.cs_un _ _ h1, unL_eq cFc _ _ h2, cNd.cs_un _ _ h3]
        unfold ardF at h4
        split at h4
        · rw [unL_eq cFc _ _ h4]
          exact ih g fs k ab s hc1 hc2 hc3 hc4 hc5 hc6
        · cases h4
          refine FT.nrm ?_
          have e1 : nrm (.agg (cPg.cs g)) = .agg g.cs := by simp [nrm, nrm0, cPg, Pg.cs]
          have e2 : nrm (.agg (cNd.cs k)) = .agg k.cs := by simp [nrm, nrm0, cNd, Nd.cs_eq]
          simp only [List.map_cons, List.map_nil, e1, e2]
          exact ih g fs k [] s hc1 hc2 hc3 hc4 hc5 hc6
        · split at h4
          · rename_i hrow
            split at h4
            · rename_i hm
              subst hm
              have := unL_eq cFc _ _ h4
              subst this
              refine FT.viewAt (ys := [.agg (cPg.cs g), .sl (fs.map cFc.cs), .agg (cNd.cs k), .sl (ab.map cFc.cs)]) hrow (fun μ μ' s s' w w' v h => by cases h; exact .bool _) rfl (fun i x y hx hy => ?_) (ih g fs k ab _ hc1 hc2 hc3 hc4 hc5 hc6)
              match i, hx, hy with
              | 0, hx, hy => simp at hx hy; exact .inl (hy.symm.trans hx)
              | 1, hx, hy => simp at hx hy; exact .inl (hy.symm.trans hx)
              | 2, hx, hy => simp at hx hy; exact .inl (hy.symm.trans hx)
              | 3, hx, hy => simp at hx hy; exact .inr ⟨by rw [← hx]; simp, hy.symm⟩
              | n + 4, hx, hy => simp at hx
            · cases h4
          · cases h4
        · cases h4
      · cases h
    · cases h
  · cases h
noncomputable def FA (N : Nat) : Fns := F23.add 19 (gPr N)
theorem FA_ok {N : Nat} (ih : PrIH K gw N) : FOk (env K gw) (FA N) := F23_ok.add (gPr_ok ih)
theorem ft_P2c {N : Nat} (ih : PrIH K gw N) (g : Pg) (fs : List Fc) (k : Nd) (ab : List Fc) (i1 i2 i3 rid : Nat) (h1 : i1 < s.nx) (h2 : i2 < s.nx) (h3 : i3 < s.nx) (h4 : rid < s.nx)
    (g1 : s.get i1 = some (.var 25 g.cs)) (g2 : s.get i2 = some (.var 26 [.sl (fs.map Fc.cs)])) (g3 : s.get i3 = some (.var 26 [.ls rid 0 ab.length])) (g4 : s.get rid = some (.row 2 (true, 29) (ab.map Fc.cs)))
    (hN : SizeOf.sizeOf k < N) (hg : okPg g = true) (hfs : okFs fs = true) (hk : okT k = true) (hab : okFs ab = true) (hd : ab.length + deepE k < MB) :
    FT (env K gw) NoW 40 [.agg k.cs, .ptr i1 0, .ptr i2 0, .ptr i3 0] s (.bool (!provesE g fs k ab)) s := by
  have n1 : ¬ i1 = s.nx := by omega
  have n2 : ¬ i2 = s.nx := by omega
  have n3 : ¬ i3 = s.nx := by omega
  have n4 : ¬ rid = s.nx := by omega
  have hcs := Nd.cs_eq k
  have hcall : ∀ s2 : St, s2.get rid = some (.row 2 (true, 29) (ab.map Fc.cs)) → FA N 19 [.agg g.cs, .sl (fs.map Fc.cs), .agg k.cs, .ls rid 0 ab.length] s2 = some (.bool (provesE g fs k ab), s2, []) := fun s2 hr => by
    have u1 : cPg.un g.cs = some g := cPg.un_cs g
    have u2 : cNd.un k.cs = some k := cNd.un_cs k
    have u3 := unL_Fc fs
    have u4 := unL_Fc ab
    simp [FA, Fns.add, gPr, u1, u2, u3, ardF, hr, u4, hN, hg, hfs, hk, hab, hd]
  have hc2 := hcall (s.push (.var 34 k.cs)) (by rw [St.get_push, if_neg n4]; exact g4)
  rw [hcs] at hc2
  refine FT.pure (fn := Tryz.f40) (FA_ok ih) mixed Tryz.func40 (by kernel_rfl) (by rfl) rfl rfl (by simp) rfl fun μ w => ?_
  simp only [Pg.cs] at g1 hc2
  repeat' (first
    | refine WP.t ?_ | refine WP.k ?_ | refine WP.e ?_ | refine Qn ?_ | refine Qr ?_ | refine Qe ?_ | refine Bn ?_ | refine Br ?_ | refine Be ?_ | refine Bx (by decide) ?_
    | (refine RS.nl ?_; refine hk _ _ ?_; clear hk k)
    | ((first | refine RS.st fun A B hA hB => ?_ | refine RQ.st fun A B hA hB => ?_); simp [hcs, n1, n2, n3, h1, h2, h3, g1, g2, g3, hc2, onW_t, onW_f, onV_s]; first | ((first | refine hA _ _ _ ?_ ?_ | refine hA _ _ _ ?_ (by first | exact .inl rfl | exact .inr (by decide)) ?_); (focus (simp [hcs, n1, n2, n3, h1, h2, h3, g1, g2, g3, hc2] <;> omega)); clear hA hB A B) | (refine hB ?_; clear hA hB A B) | (refine onV_if ?_ ?_; (focus (first | omega | (refine ⟨?_, ?_⟩ <;> omega))); simp only [onV_s]; (first | refine hA _ _ _ ?_ ?_ | refine hA _ _ _ ?_ (by first | exact .inl rfl | exact .inr (by decide)) ?_); (focus (simp [hcs, n1, n2, n3, h1, h2, h3, g1, g2, g3, hc2] <;> omega)); clear hA hB A B))
    | (refine RQ.nl ?_; refine hk _ _ ?_; clear hk k)
    | refine WP.sr fun k hk => ?_ | refine WP.r fun k hk => ?_
    | refine WP.sd _ rfl fun k hk => ?_ | refine WP.d _ rfl fun k hk => ?_
    | (refine WP.cc fun A B hA hB => ?_; simp [hcs, n1, n2, n3, h1, h2, h3, g1, g2, g3, hc2, onB_t, onB_f]; first | (refine hA ?_; clear hA hB A B) | (refine hB ?_; clear hA hB A B) | (refine onB_if (fun h => hA ?_) (fun h => hB ?_) <;> clear hA hB A B))
    | refine WP.q ?_ | refine WP.b ?_)
  simp
noncomputable def FB (N : Nat) : Fns := (FA N).add 40 (gP2 N)
theorem FB_ok {N : Nat} (ih : PrIH K gw N) : FOk (env K gw) (FB N) := (FA_ok ih).add fun xs s r s' l h => by
  unfold gP2 at h
  split at h
  · split at h
    · rename_i h1 h2 h3 h4
      split at h
      · rename_i h5 h6 h7
        split at h
        · rename_i hc
          obtain ⟨⟨b1, b2, b3, b4⟩, c1, c2, c3, c4, c5, c6⟩ := hc
          cases h
          rw [noW, cNd.cs_un _ _ h1]
          rw [cPg.cs_un _ _ h5] at h2
          rw [unL_eq cFc _ _ h6] at h3
          simp only [ardF] at h7
          split at h7
          · rename_i hrow
            split at h7
            · rename_i hm
              subst hm
              have := unL_eq cFc _ _ h7
              subst this
              rw [List.length_map] at h4
              exact ft_P2c ih _ _ _ _ _ _ _ _ b1 b2 b3 b4 h2 h3 h4 hrow c1 c2 c3 c4 c5 c6
            · cases h7
          · cases h7
        · cases h
      · cases h
    · cases h
  · cases h
noncomputable def FC (N : Nat) : Fns := (FB N).add 67 (gIdxG cNd (FB N))
theorem FC_ok {N : Nat} (ih : PrIH K gw N) : FOk (env K gw) (FC N) := (FB_ok ih).add fun xs s r s' l h => by
  obtain ⟨l', g, caps, p, rfl, hl, hp, rfl, rfl, rfl⟩ := gIdxG_iff h
  rw [noW]
  exact ft_IdxNd (FB_ok ih) g caps p l' hl hp
theorem ft_ConNd {N : Nat} (ih : PrIH K gw N) (g : FuncId) (cap : List AV) (p : Nd → Bool) (l : List Nd) (hl : l.length < LIM) (hp : ∀ x ∈ l, FB N g (.agg x.cs :: cap) s = some (.bool (p x), s, [])) :
    FT (env K gw) NoW 39 [.sl (l.map Nd.cs), .fn (.func g) [] cap] s (.bool (l.any p)) s := by
  have hi := gIdxG_of (c := cNd) hl hp
  have ha := ixI_any p l
  have hi' : FC N 67 [.sl (l.map Nd.cs), .fn (.func g) [] cap] s = some (.int .i64 (ixI (l.findIdx? p)), s, []) := hi
  refine FT.pure (fn := Tryz.f39) (FC_ok ih) mixed Tryz.func39 (by kernel_rfl) (by rfl) rfl rfl (by simp) rfl fun μ w => ?_
  repeat' (first
    | refine WP.t ?_ | refine WP.k ?_ | refine WP.e ?_ | refine Qn ?_ | refine Qr ?_ | refine Qe ?_ | refine Bn ?_ | refine Br ?_ | refine Be ?_ | refine Bx (by decide) ?_
    | (refine RS.nl ?_; refine hk _ _ ?_; clear hk k)
    | ((first | refine RS.st fun A B hA hB => ?_ | refine RQ.st fun A B hA hB => ?_); simp [hi', ha, onW_t, onW_f, onV_s]; first | ((first | refine hA _ _ _ ?_ ?_ | refine hA _ _ _ ?_ (by first | exact .inl rfl | exact .inr (by decide)) ?_); (focus (simp [hi', ha] <;> omega)); clear hA hB A B) | (refine hB ?_; clear hA hB A B) | (refine onV_if ?_ ?_; (focus (first | omega | (refine ⟨?_, ?_⟩ <;> omega))); simp only [onV_s]; (first | refine hA _ _ _ ?_ ?_ | refine hA _ _ _ ?_ (by first | exact .inl rfl | exact .inr (by decide)) ?_); (focus (simp [hi', ha] <;> omega)); clear hA hB A B))
    | (refine RQ.nl ?_; refine hk _ _ ?_; clear hk k)
    | refine WP.sr fun k hk => ?_ | refine WP.r fun k hk => ?_
    | refine WP.sd _ rfl fun k hk => ?_ | refine WP.d _ rfl fun k hk => ?_
    | (refine WP.cc fun A B hA hB => ?_; simp [hi', ha, onB_t, onB_f]; first | (refine hA ?_; clear hA hB A B) | (refine hB ?_; clear hA hB A B) | (refine onB_if (fun h => hA ?_) (fun h => hB ?_) <;> clear hA hB A B))
    | refine WP.q ?_ | refine WP.b ?_)
  simp [← ha]
noncomputable def FD (N : Nat) : Fns := ((FC N).add 39 (gConG cNd (FB N))).addP 38 fun xs => match xs with
  | [.agg a, .sl b, .agg c] => match cPg.un a, unL cFc b, cNd.un c with
    | some g, some fs, some n => if okPg g = true ∧ okFs fs = true ∧ n.f.a.length < MB ∧ okK n.k = true then some (.bool (standsE g fs n)) else none
    | _, _, _ => none
  | _ => none
theorem FD_ok {N : Nat} (ih : PrIH K gw N) : FOk (env K gw) (FD N) := by
  refine ((FC_ok ih).add fun xs s r s' l h => ?_).addP fun xs s r h => ?_
  · obtain ⟨l', g, caps, p, rfl, hl, hp, rfl, rfl, rfl⟩ := gConG_iff h
    rw [noW]
    exact ft_ConNd ih g caps p l' hl hp
  · split at h
    · split at h
      · rename_i h1 h2 h3
        split at h
        · rename_i hl
          cases h
          rw [cPg.cs_un _ _ h1, unL_eq cFc _ _ h2, cNd.cs_un _ _ h3]
          exact ft_stands _ _ _ hl.1 hl.2.1 hl.2.2.1 hl.2.2.2
        · cases h
      · cases h
    · cases h
theorem FD_con {N : Nat} {s2 : St} (g : Pg) (fs : List Fc) (l : List Nd) (ab : List Fc) (i1 i2 i3 rid : Nat) (h1 : i1 < s2.nx) (h2 : i2 < s2.nx) (h3 : i3 < s2.nx) (h4 : rid < s2.nx)
    (g1 : s2.get i1 = some (.var 25 g.cs)) (g2 : s2.get i2 = some (.var 26 [.sl (fs.map Fc.cs)])) (g3 : s2.get i3 = some (.var 26 [.ls rid 0 ab.length])) (g4 : s2.get rid = some (.row 2 (true, 29) (ab.map Fc.cs)))
    (hN : ∀ k ∈ l, SizeOf.sizeOf k < N) (hl : l.length < MB) (hg : okPg g = true) (hfs : okFs fs = true) (hk : ∀ k ∈ l, okT k = true) (hab : okFs ab = true) (hd : ab.length + deepL l < MB) :
    FD N 39 [.sl (l.map Nd.cs), .fn (.func 40) [] [.ptr i1 0, .ptr i2 0, .ptr i3 0]] s2 = some (.bool (l.any fun k => !provesE g fs k ab), s2, []) := by
  refine gConG_of (c := cNd) (by simp only [LIM, MB] at *; omega) fun k hkl => ?_
  have hdk := deepL_mem hkl
  have u1 : cPg.un g.cs = some g := cPg.un_cs g
  have u2 : cNd.un k.cs = some k := cNd.un_cs k
  have u3 := unL_Fc fs
  have u4 := unL_Fc ab
  have hd2 : ab.length + deepE k < MB := by omega
  show FB N 40 [.agg k.cs, .ptr i1 0, .ptr i2 0, .ptr i3 0] s2 = _
  simp [FB, Fns.add, gP2, u1, u2, u3, ardF, g1, g2, g3, g4, u4, h1, h2, h3, h4, hN k hkl, hg, hfs, hk k hkl, hab, hd2]
theorem FD_stands {N : Nat} (g : Pg) (fs : List Fc) (n : Nd) (hg : okPg g = true) (hfs : okFs fs = true) (hn : n.f.a.length < MB) (hk : okK n.k = true) (s2 : St) : FD N 38 [.agg g.cs, .sl (fs.map Fc.cs), .agg n.cs] s2 = some (.bool (standsE g fs n), s2, []) := by
  have u1 : cPg.un g.cs = some g := cPg.un_cs g
  have u2 : cNd.un n.cs = some n := cNd.un_cs n
  have u3 := unL_Fc fs
  simp [FD, u1, u2, u3, hg, hfs, hn, hk]
theorem FD_con1 {N : Nat} {s2 : St} (n : Nd) (fs : List Fc) (id : Nat) (hid : id < s2.nx) (hs : s2.get id = some (.var 34 n.cs)) (hf : n.f.a.length < LIM) (hfs : okFs fs = true) :
    FD N 35 [.sl (fs.map Fc.cs), .fn (.func 36) [] [.ptr id 0]] s2 = some (.bool (fs.any fun x => cmpF x n.f == 0), s2, []) := by
  rw [← F18_con1 n fs id hid hs hf hfs]
  simp [FD, FC, FB, FA, F23, F22, F21, F20, F19, Fns.addN, Fns.add]
theorem copy_front (X Y : List (List AV)) (sz L : Nat) (hY : ∀ x ∈ Y, x.length = sz ∧ x.all AV.one = true) (hL : L = X.length) (hi : Y.length ≤ X.length) {s2 : St} {id : Nat} {ty : TypeId} (hg : s2.get id = some (.row sz (true, ty) X)) :
    acopy s2 (.ls id 0 L) Y sz = some (Y.length, s2.put id (.row sz (true, ty) (Y ++ X.drop Y.length))) := by
  subst hL
  have h3 : min Y.length X.length = Y.length := by omega
  unfold acopy
  simp only [hg, h3]
  rw [if_pos]
  · simp only [Option.some.injEq, Prod.mk.injEq, true_and]
    congr 2
    unfold splice
    rw [List.take_length]
    simp
  · refine ⟨trivial, by omega, ?_⟩
    rw [Bool.or_eq_true]
    refine .inl (List.all_eq_true.2 fun y hy => ?_)
    simp [(hY y hy).1, (hY y hy).2]
set_option maxRecDepth 20000 in
set_option maxHeartbeats 8000000 in
theorem ft_proves {N : Nat} (ih : PrIH K gw N) (g : Pg) (fs : List Fc) (n : Nd) (ab : List Fc) (hN : ∀ k ∈ n.k, SizeOf.sizeOf k < N) (hg : okPg g = true) (hfs : okFs fs = true) (hn : okT n = true) (hab : okFs ab = true) (hd : ab.length + deepE n < MB) :
    FT (env K gw) NoW 19 [.agg g.cs, .sl (fs.map Fc.cs), .agg n.cs, .sl (ab.map Fc.cs)] s (.bool (provesE g fs n ab)) s := by
  have hn' := okT_iff.1 hn
  have hab' := okFs_iff.1 hab
  rw [deepE_eq] at hd
  have hcs := Nd.cs_eq n
  have hgcs : g.cs = [.sl (g.decls.map Dc.cs), .sl (g.rules.map Rl.cs)] := rfl
  have hpe := provesE_eq g fs n ab
  refine FT.pure (fn := Tryz.f19) (FD_ok ih) mixed Tryz.func19 (by kernel_rfl) (by rfl) rfl rfl (by simp) rfl fun μ w => ?_
  have hcon1 := fun (s2 : St) h1 h2 => FD_con1 (N := N) (s2 := s2) n ab (s.nx + 1 + 1) h1 h2 (by have := hn'.1; simp only [LIM, MB] at *; omega) hab
  have hst := FD_stands (N := N) g fs n hg hfs hn'.1 (okT_okK hn)
  generalize hs1 : ((s.push (.var 25 g.cs)).push (.var 26 [.sl (fs.map Fc.cs)])).push (.var 34 n.cs) = s1
  have hc1 := hcon1 s1 (by rw [← hs1]; simp) (by rw [← hs1]; simp)
  have h1n : s1.nx = s.nx + 1 + 1 + 1 := by rw [← hs1]; simp
  have hg0 : s1.get s.nx = some (.var 25 g.cs) := by rw [← hs1]; simp [St.get_push]
  have hg1 : s1.get (s.nx + 1) = some (.var 26 [.sl (fs.map Fc.cs)]) := by rw [← hs1]; simp [St.get_push]
  have hg2 : s1.get (s.nx + 1 + 1) = some (.var 34 n.cs) := by rw [← hs1]; simp [St.get_push]
  clear hcon1
  rw [hgcs, hcs] at hs1
  rw [hgcs] at hg0
  rw [hcs] at hg2
  rw [hcs, hgcs] at hst
  generalize (ab.any fun x => cmpF x n.f == 0) = again at *
  cases again with
  | true =>
    rw [hpe]
    repeat' (first
      | refine WP.t ?_ | refine WP.k ?_ | refine WP.e ?_ | refine Qn ?_ | refine Qr ?_ | refine Qe ?_ | refine Bn ?_ | refine Br ?_ | refine Be ?_ | refine Bx (by decide) ?_
      | (refine RS.nl ?_; refine hk _ _ ?_; clear hk k)
      | ((first | refine RS.st fun A B hA hB => ?_ | refine RQ.st fun A B hA hB => ?_); simp [hcs, hgcs, hs1, hc1, h1n, hg0, hg1, hg2, onW_t, onW_f, onV_s]; first | ((first | refine hA _ _ _ ?_ ?_ | refine hA _ _ _ ?_ (by first | exact .inl rfl | exact .inr (by decide)) ?_); (focus (simp [hcs, hgcs, hs1, hc1, h1n, hg0, hg1, hg2] <;> omega)); clear hA hB A B) | (refine hB ?_; clear hA hB A B) | (refine onV_if ?_ ?_; (focus (first | omega | (refine ⟨?_, ?_⟩ <;> omega))); simp only [onV_s]; (first | refine hA _ _ _ ?_ ?_ | refine hA _ _ _ ?_ (by first | exact .inl rfl | exact .inr (by decide)) ?_); (focus (simp [hcs, hgcs, hs1, hc1, h1n, hg0, hg1, hg2] <;> omega)); clear hA hB A B))
      | (refine RQ.nl ?_; refine hk _ _ ?_; clear hk k)
      | refine WP.sr fun k hk => ?_ | refine WP.r fun k hk => ?_
      | refine WP.sd _ rfl fun k hk => ?_ | refine WP.d _ rfl fun k hk => ?_
      | (refine WP.cc fun A B hA hB => ?_; simp [hcs, hgcs, hs1, hc1, h1n, hg0, hg1, hg2, onB_t, onB_f]; first | (refine hA ?_; clear hA hB A B) | (refine hB ?_; clear hA hB A B) | (refine onB_if (fun h => hA ?_) (fun h => hB ?_) <;> clear hA hB A B))
      | refine WP.q ?_ | refine WP.b ?_)
    simp
  | false =>
    generalize standsE g fs n = st at *
    cases st with
    | false =>
      rw [hpe]
      repeat' (first
        | refine WP.t ?_ | refine WP.k ?_ | refine WP.e ?_ | refine Qn ?_ | refine Qr ?_ | refine Qe ?_ | refine Bn ?_ | refine Br ?_ | refine Be ?_ | refine Bx (by decide) ?_
        | (refine RS.nl ?_; refine hk _ _ ?_; clear hk k)
        | ((first | refine RS.st fun A B hA hB => ?_ | refine RQ.st fun A B hA hB => ?_); simp [hcs, hgcs, hs1, hc1, h1n, hg0, hg1, hg2, hst, onW_t, onW_f, onV_s]; first | ((first | refine hA _ _ _ ?_ ?_ | refine hA _ _ _ ?_ (by first | exact .inl rfl | exact .inr (by decide)) ?_); (focus (simp [hcs, hgcs, hs1, hc1, h1n, hg0, hg1, hg2, hst] <;> omega)); clear hA hB A B) | (refine hB ?_; clear hA hB A B) | (refine onV_if ?_ ?_; (focus (first | omega | (refine ⟨?_, ?_⟩ <;> omega))); simp only [onV_s]; (first | refine hA _ _ _ ?_ ?_ | refine hA _ _ _ ?_ (by first | exact .inl rfl | exact .inr (by decide)) ?_); (focus (simp [hcs, hgcs, hs1, hc1, h1n, hg0, hg1, hg2, hst] <;> omega)); clear hA hB A B))
        | (refine RQ.nl ?_; refine hk _ _ ?_; clear hk k)
        | refine WP.sr fun k hk => ?_ | refine WP.r fun k hk => ?_
        | refine WP.sd _ rfl fun k hk => ?_ | refine WP.d _ rfl fun k hk => ?_
        | (refine WP.cc fun A B hA hB => ?_; simp [hcs, hgcs, hs1, hc1, h1n, hg0, hg1, hg2, hst, onB_t, onB_f]; first | (refine hA ?_; clear hA hB A B) | (refine hB ?_; clear hA hB A B) | (refine onB_if (fun h => hA ?_) (fun h => hB ?_) <;> clear hA hB A B))
        | refine WP.q ?_ | refine WP.b ?_)
      simp
    | true =>
      have hw : IntKind.i64.wrap ((ab.length : Int) + 1) = (ab.length : Int) + 1 := wrap64 (by omega) (by have := hab'.1; simp only [MB] at this; omega)
      have hmk : amake (env K gw) s1 26 ((ab.length : Int) + 1) ((ab.length : Int) + 1) = some (.ls (s.nx + 1 + 1 + 1) 0 (ab.length + 1), s1.push (.row 2 (true, 29) (List.replicate (ab.length + 1) [.str [], .nsl]))) := by
        have h1 : ((ab.length : Int) + 1).toNat = ab.length + 1 := by omega
        have h2 : (0 : Int) ≤ (ab.length : Int) + 1 := by omega
        have h3 : ((ab.length : Int) + 1) * 40 ≤ 140737488355328 := by have := hab'.1; simp only [MB] at this; omega
        simp [amake, h1, h2, h3, h1n]
      generalize hs2 : ((s1.push (.row 2 (true, 29) (List.replicate (ab.length + 1) [.str [], .nsl]))).push (.var 26 [.nsl])).put (s.nx + 1 + 1 + 1 + 1) (.var 26 [.ls (s.nx + 1 + 1 + 1) 0 (ab.length + 1)]) = s2
      have h2n : s2.nx = s.nx + 1 + 1 + 1 + 1 + 1 := by rw [← hs2]; simp [h1n]
      have lo : ∀ j, j < s.nx + 1 + 1 + 1 → s2.get j = s1.get j := fun j hj => by
        rw [← hs2, St.get_put, if_neg (by omega), St.get_push, if_neg (by simp [h1n]; omega), St.get_push, if_neg (by omega)]
      have k0 : s2.get s.nx = some (.var 25 [.sl (g.decls.map Dc.cs), .sl (g.rules.map Rl.cs)]) := by rw [lo _ (by omega)]; exact hg0
      have k1 : s2.get (s.nx + 1) = some (.var 26 [.sl (fs.map Fc.cs)]) := by rw [lo _ (by omega)]; exact hg1
      have k2 : s2.get (s.nx + 1 + 1) = some (.var 34 [.str n.f.p, .sl (n.f.a.map V.cs), .int .i64 n.r, .sl (n.k.map Nd.cs)]) := by rw [lo _ (by omega)]; exact hg2
      have k3 : s2.get (s.nx + 1 + 1 + 1) = some (.row 2 (true, 29) (List.replicate (ab.length + 1) [.str [], .nsl])) := by
        rw [← hs2, St.get_put, if_neg (by omega), St.get_push, if_neg (by simp [h1n]), ← h1n]
        exact St.get_push_same _ _
      have k4 : s2.get (s.nx + 1 + 1 + 1 + 1) = some (.var 26 [.ls (s.nx + 1 + 1 + 1) 0 (ab.length + 1)]) := by rw [← hs2]; exact St.get_put_same _ _ _
      have hone : ∀ x ∈ ab.map Fc.cs, x.length = 2 ∧ x.all AV.one = true := fun x hx => by
        obtain ⟨f, _, rfl⟩ := List.mem_map.1 hx
        exact ⟨rfl, rfl⟩
      have hcp := copy_front _ (ab.map Fc.cs) 2 (ab.length + 1) hone (by simp) (by simp) k3
      have hdr : (List.replicate (ab.length + 1) [AV.str [], .nsl]).drop (ab.map Fc.cs).length = [[AV.str [], .nsl]] := by
        have : ab.length + 1 - (ab.map Fc.cs).length = 1 := by simp
        rw [List.drop_replicate, this]; rfl
      rw [hdr, List.length_map] at hcp
      have hlt1 : (ab.length : Int) < (ab.length : Int) + 1 := by omega
      generalize hs3 : s2.put (s.nx + 1 + 1 + 1) (.row 2 (true, 29) (ab.map Fc.cs ++ [[.str [], .nsl]])) = s3 at hcp
      have h3n : s3.nx = s.nx + 1 + 1 + 1 + 1 + 1 := by rw [← hs3]; simp [h2n]
      have lo3 : ∀ j, j ≠ s.nx + 1 + 1 + 1 → s3.get j = s2.get j := fun j hj => by rw [← hs3, St.get_put, if_neg hj]
      have q0 := (lo3 s.nx (by omega)).trans k0
      have q1 := (lo3 (s.nx + 1) (by omega)).trans k1
      have q2 := (lo3 (s.nx + 1 + 1) (by omega)).trans k2
      have q4 := (lo3 (s.nx + 1 + 1 + 1 + 1) (by omega)).trans k4
      have q3 : s3.get (s.nx + 1 + 1 + 1) = some (.row 2 (true, 29) (ab.map Fc.cs ++ [[.str [], .nsl]])) := by rw [← hs3]; exact St.get_put_same _ _ _
      generalize hs4 : s3.put (s.nx + 1 + 1 + 1) (.row 2 (true, 29) (ab.map Fc.cs ++ [[.str n.f.p, .sl (n.f.a.map V.cs)]])) = s4
      have h4n : s4.nx = s.nx + 1 + 1 + 1 + 1 + 1 := by rw [← hs4]; simp [h3n]
      have lo4 : ∀ j, j ≠ s.nx + 1 + 1 + 1 → s4.get j = s3.get j := fun j hj => by rw [← hs4, St.get_put, if_neg hj]
      have r0 := (lo4 s.nx (by omega)).trans q0
      have r1 := (lo4 (s.nx + 1) (by omega)).trans q1
      have r4 := (lo4 (s.nx + 1 + 1 + 1 + 1) (by omega)).trans q4
      have r3 : s4.get (s.nx + 1 + 1 + 1) = some (.row 2 (true, 29) ((ab ++ [n.f]).map Fc.cs)) := by
        rw [← hs4, St.get_put_same]
        simp [Fc.cs]
      have hlen : (ab ++ [n.f]).length = ab.length + 1 := by simp
      have hab2 : okFs (ab ++ [n.f]) = true := okFs_iff.2 ⟨by rw [hlen]; omega, fun f hf => by
        rcases List.mem_append.1 hf with hf | hf
        · exact hab'.2 f hf
        · rw [List.mem_singleton] at hf; subst hf; exact hn'.1⟩
      rw [← hlen] at r4
      have hcon := FD_con (N := N) (s2 := s4) g fs n.k (ab ++ [n.f]) s.nx (s.nx + 1) (s.nx + 1 + 1 + 1 + 1) (s.nx + 1 + 1 + 1) (by omega) (by omega) (by omega) (by omega) r0 r1 r4 r3 hN hn'.2.1 hg hfs hn'.2.2 hab2 (by rw [hlen]; omega)
      have hres : (!(n.k.any fun k => !provesE g fs k (ab ++ [n.f]))) = (n.k.all fun k => provesE g fs k (ab ++ [n.f])) := by
        rw [List.any_eq_not_all_not]; simp
      rw [hpe]
      have q2' : ∀ o, (s3.put (s.nx + 1 + 1 + 1) o).get (s.nx + 1 + 1) = s3.get (s.nx + 1 + 1) := fun o => by rw [St.get_put, if_neg (by omega)]
      have r2 := (lo4 (s.nx + 1 + 1) (by omega)).trans q2
      repeat' (first
        | refine WP.t ?_ | refine WP.k ?_ | refine WP.e ?_ | refine Qn ?_ | refine Qr ?_ | refine Qe ?_ | refine Bn ?_ | refine Br ?_ | refine Be ?_ | refine Bx (by decide) ?_
        | (refine RS.nl ?_; refine hk _ _ ?_; clear hk k)
        | ((first | refine RS.st fun A B hA hB => ?_ | refine RQ.st fun A B hA hB => ?_); simp [hcs, hgcs, hs1, hc1, h1n, hg0, hg1, hg2, hst, hw, hmk, hs2, h2n, k0, k1, k2, k3, k4, hcp, hlt1, h3n, q0, q1, q2, q3, q4, hs4, h4n, r2, hcon, onW_t, onW_f, onV_s]; first | ((first | refine hA _ _ _ ?_ ?_ | refine hA _ _ _ ?_ (by first | exact .inl rfl | exact .inr (by decide)) ?_); (focus (simp [hcs, hgcs, hs1, hc1, h1n, hg0, hg1, hg2, hst, hw, hmk, hs2, h2n, k0, k1, k2, k3, k4, hcp, hlt1, h3n, q0, q1, q2, q3, q4, hs4, h4n, r2, hcon] <;> omega)); clear hA hB A B) | (refine hB ?_; clear hA hB A B) | (refine onV_if ?_ ?_; (focus (first | omega | (refine ⟨?_, ?_⟩ <;> omega))); simp only [onV_s]; (first | refine hA _ _ _ ?_ ?_ | refine hA _ _ _ ?_ (by first | exact .inl rfl | exact .inr (by decide)) ?_); (focus (simp [hcs, hgcs, hs1, hc1, h1n, hg0, hg1, hg2, hst, hw, hmk, hs2, h2n, k0, k1, k2, k3, k4, hcp, hlt1, h3n, q0, q1, q2, q3, q4, hs4, h4n, r2, hcon] <;> omega)); clear hA hB A B))
        | (refine RQ.nl ?_; refine hk _ _ ?_; clear hk k)
        | (refine RW.nl ?_ ?_; (focus (first | exact .inl (by decide) | (refine .inr ?_; (simp [hcs, hgcs, hs1, hc1, h1n, hg0, hg1, hg2, hst, hw, hmk, hs2, h2n, k0, k1, k2, k3, k4, hcp, hlt1, h3n, q0, q1, q2, q3, q4, hs4, h4n, r2, hcon] <;> omega)))); refine hk _ _ ?_; clear hk k)
        | (refine RW.st ?_ fun A B hA hB => ?_; (focus (first | exact .inl (by decide) | (refine .inr ?_; (simp [hcs, hgcs, hs1, hc1, h1n, hg0, hg1, hg2, hst, hw, hmk, hs2, h2n, k0, k1, k2, k3, k4, hcp, hlt1, h3n, q0, q1, q2, q3, q4, hs4, h4n, r2, hcon] <;> omega)))); simp [hcs, hgcs, hs1, hc1, h1n, hg0, hg1, hg2, hst, hw, hmk, hs2, h2n, k0, k1, k2, k3, k4, hcp, hlt1, h3n, q0, q1, q2, q3, q4, hs4, h4n, r2, hcon, onW_t, onW_f, onV_s]; first | (refine hA _ _ _ ?_ ?_ ?_ ?_; (focus (simp [hcs, hgcs, hs1, hc1, h1n, hg0, hg1, hg2, hst, hw, hmk, hs2, h2n, k0, k1, k2, k3, k4, hcp, hlt1, h3n, q0, q1, q2, q3, q4, hs4, h4n, r2, hcon] <;> omega)); (focus (first | exact .inl (by decide) | exact .inr (.inl rfl) | exact .inr (.inr rfl))); (focus (first | exact .inl (by decide) | exact .inr (.inl (by decide)) | (refine .inr (.inr fun s2 hs2 => ?_); have hs2n := hs2.nx; simp only [Keep_cons, Keep_nil] at hs2; simp [hcs, hgcs, hs1, hc1, h1n, hg0, hg1, hg2, hst, hw, hmk, hs2, h2n, k0, k1, k2, k3, k4, hcp, hlt1, h3n, q0, q1, q2, q3, q4, hs4, h4n, r2, hcon, hs2, hs2n]; done))); clear hA hB A B) | (refine hB ?_; clear hA hB A B))
        | refine WP.sr fun k hk => ?_ | refine WP.r fun k hk => ?_
        | (refine WP.swK [s.nx + 1 + 1, s.nx + 1 + 1 + 1 + 1] ?_ fun k hk => ?_; (focus (decide))) | (refine WP.wK [s.nx + 1 + 1, s.nx + 1 + 1 + 1 + 1] ?_ fun k hk => ?_; (focus (decide))) | refine WP.sd _ rfl fun k hk => ?_ | refine WP.d _ rfl fun k hk => ?_
        | (refine WP.cc fun A B hA hB => ?_; simp [hcs, hgcs, hs1, hc1, h1n, hg0, hg1, hg2, hst, hw, hmk, hs2, h2n, k0, k1, k2, k3, k4, hcp, hlt1, h3n, q0, q1, q2, q3, q4, hs4, h4n, r2, hcon, onB_t, onB_f]; first | (refine hA ?_; clear hA hB A B) | (refine hB ?_; clear hA hB A B) | (refine onB_if (fun h => hA ?_) (fun h => hB ?_) <;> clear hA hB A B))
        | refine WP.q ?_ | refine WP.b ?_)
      simp [hres]
/-- tree.proves at any tree. -/
theorem PrIH_all (N : Nat) : PrIH K gw N := by
  induction N with
  | zero => exact fun g fs k ab s h => absurd h (Nat.not_lt_zero _)
  | succ N ih =>
    intro g fs k ab s hN hg hfs hk hab hd
    exact ft_proves ih g fs k ab (fun c hc => by have := Nd.kid_lt hc; omega) hg hfs hk hab hd
theorem ft_Check (g : Pg) (fs : List Fc) (n : Nd) (hg : okPg g = true) (hfs : okFs fs = true) (hn : okT n = true) (hd : deepE n < MB) :
    FT (env K gw) NoW 7 [.agg g.cs, .sl (fs.map Fc.cs), .agg n.cs] s (.int .i64 (if provesE g fs n [] then 0 else 11)) s := by
  have hcs := Nd.cs_eq n
  have hgcs : g.cs = [.sl (g.decls.map Dc.cs), .sl (g.rules.map Rl.cs)] := rfl
  have hcall : ∀ s2 : St, FA (SizeOf.sizeOf n + 1) 19 [.agg g.cs, .sl (fs.map Fc.cs), .agg n.cs, .nsl] s2 = some (.bool (provesE g fs n []), s2, []) := fun s2 => by
    have u1 : cPg.un g.cs = some g := cPg.un_cs g
    have u2 : cNd.un n.cs = some n := cNd.un_cs n
    have u3 := unL_Fc fs
    have h0 : okFs [] = true := rfl
    simp [FA, Fns.add, gPr, u1, u2, u3, ardF, hg, hfs, hn, h0, hd]
  rw [hcs, hgcs] at hcall
  refine FT.pure (fn := Tryz.f7) (FA_ok (PrIH_all (SizeOf.sizeOf n + 1))) mixed Tryz.func7 (by kernel_rfl) (by rfl) rfl rfl (by simp) rfl fun μ w => ?_
  cases hp : provesE g fs n [] with
  | true =>
    rw [hp] at hcall
    repeat' (first
      | refine WP.t ?_ | refine WP.k ?_ | refine WP.e ?_ | refine Qn ?_ | refine Qr ?_ | refine Qe ?_ | refine Bn ?_ | refine Br ?_ | refine Be ?_ | refine Bx (by decide) ?_
      | (refine RS.nl ?_; refine hk _ _ ?_; clear hk k)
      | ((first | refine RS.st fun A B hA hB => ?_ | refine RQ.st fun A B hA hB => ?_); simp [hcs, hgcs, hcall, onW_t, onW_f, onV_s]; first | ((first | refine hA _ _ _ ?_ ?_ | refine hA _ _ _ ?_ (by first | exact .inl rfl | exact .inr (by decide)) ?_); (focus (simp [hcs, hgcs, hcall] <;> omega)); clear hA hB A B) | (refine hB ?_; clear hA hB A B) | (refine onV_if ?_ ?_; (focus (first | omega | (refine ⟨?_, ?_⟩ <;> omega))); simp only [onV_s]; (first | refine hA _ _ _ ?_ ?_ | refine hA _ _ _ ?_ (by first | exact .inl rfl | exact .inr (by decide)) ?_); (focus (simp [hcs, hgcs, hcall] <;> omega)); clear hA hB A B))
      | (refine RQ.nl ?_; refine hk _ _ ?_; clear hk k)
      | refine WP.sr fun k hk => ?_ | refine WP.r fun k hk => ?_
      | refine WP.sd _ rfl fun k hk => ?_ | refine WP.d _ rfl fun k hk => ?_
      | (refine WP.cc fun A B hA hB => ?_; simp [hcs, hgcs, hcall, onB_t, onB_f]; first | (refine hA ?_; clear hA hB A B) | (refine hB ?_; clear hA hB A B) | (refine onB_if (fun h => hA ?_) (fun h => hB ?_) <;> clear hA hB A B))
      | refine WP.q ?_ | refine WP.b ?_)
    simp
  | false =>
    rw [hp] at hcall
    repeat' (first
      | refine WP.t ?_ | refine WP.k ?_ | refine WP.e ?_ | refine Qn ?_ | refine Qr ?_ | refine Qe ?_ | refine Bn ?_ | refine Br ?_ | refine Be ?_ | refine Bx (by decide) ?_
      | (refine RS.nl ?_; refine hk _ _ ?_; clear hk k)
      | ((first | refine RS.st fun A B hA hB => ?_ | refine RQ.st fun A B hA hB => ?_); simp [hcs, hgcs, hcall, onW_t, onW_f, onV_s]; first | ((first | refine hA _ _ _ ?_ ?_ | refine hA _ _ _ ?_ (by first | exact .inl rfl | exact .inr (by decide)) ?_); (focus (simp [hcs, hgcs, hcall] <;> omega)); clear hA hB A B) | (refine hB ?_; clear hA hB A B) | (refine onV_if ?_ ?_; (focus (first | omega | (refine ⟨?_, ?_⟩ <;> omega))); simp only [onV_s]; (first | refine hA _ _ _ ?_ ?_ | refine hA _ _ _ ?_ (by first | exact .inl rfl | exact .inr (by decide)) ?_); (focus (simp [hcs, hgcs, hcall] <;> omega)); clear hA hB A B))
      | (refine RQ.nl ?_; refine hk _ _ ?_; clear hk k)
      | refine WP.sr fun k hk => ?_ | refine WP.r fun k hk => ?_
      | refine WP.sd _ rfl fun k hk => ?_ | refine WP.d _ rfl fun k hk => ?_
      | (refine WP.cc fun A B hA hB => ?_; simp [hcs, hgcs, hcall, onB_t, onB_f]; first | (refine hA ?_; clear hA hB A B) | (refine hB ?_; clear hA hB A B) | (refine onB_if (fun h => hA ?_) (fun h => hB ?_) <;> clear hA hB A B))
      | refine WP.q ?_ | refine WP.b ?_)
    simp
end
end Go.Am
namespace Go.Am
open Go.Proofs
mutual
def sizeE : Nd → Nat
  | .mk _ _ k => 1 + sizeL k
def sizeL : List Nd → Nat
  | [] => 0
  | n :: l => sizeE n + sizeL l
end
mutual
def allE : Nd → List Nd
  | .mk f r k => .mk f r k :: allL k
def allL : List Nd → List Nd
  | [] => []
  | n :: l => allE n ++ allL l
end
theorem sizeE_eq (n : Nd) : sizeE n = 1 + sizeL n.k := by
  obtain ⟨f, r, k⟩ := n
  simp [sizeE, Nd.k]
theorem allE_eq (n : Nd) : allE n = n :: allL n.k := by
  obtain ⟨f, r, k⟩ := n
  simp [allE, Nd.k]
theorem allL_len : ∀ l : List Nd, (∀ n ∈ l, (allE n).length = sizeE n) → (allL l).length = sizeL l
  | [], _ => rfl
  | n :: l, h => by
    simp only [allL, sizeL, List.length_append]
    rw [h n (List.mem_cons_self ..), allL_len l fun x hx => h x (List.mem_cons_of_mem _ hx)]
theorem allE_len (n : Nd) : (allE n).length = sizeE n := by
  induction n using Nd.ind with
  | h n ih =>
    rw [allE_eq, sizeE_eq, List.length_cons, allL_len _ ih]
    omega
theorem sizeL_take {l : List Nd} {i : Nat} (h : i < l.length) : sizeL (l.take (i + 1)) = sizeL (l.take i) + sizeE l[i] := by
  induction l generalizing i with
  | nil => simp at h
  | cons x l ih =>
    cases i with
    | zero => simp [sizeL]
    | succ i =>
      have := ih (i := i) (by simpa using h)
      simp only [List.take_succ_cons, sizeL, List.getElem_cons_succ]
      omega
theorem allL_take {l : List Nd} {i : Nat} (h : i < l.length) : allL (l.take (i + 1)) = allL (l.take i) ++ allE l[i] := by
  induction l generalizing i with
  | nil => simp at h
  | cons x l ih =>
    cases i with
    | zero => simp [allL]
    | succ i =>
      have := ih (i := i) (by simpa using h)
      simp only [List.take_succ_cons, allL, List.getElem_cons_succ, List.append_assoc]
      rw [this]
theorem allL_append (l l' : List Nd) : allL (l ++ l') = allL l ++ allL l' := by
  induction l with
  | nil => simp [allL]
  | cons x l ih => simp [allL, ih]
theorem allL_split {l : List Nd} {i : Nat} (h : i < l.length) : allL (l.take i) ++ (allE l[i] ++ allL (l.drop (i + 1))) = allL l := by
  have h1 : allE l[i] ++ allL (l.drop (i + 1)) = allL (l.drop i) := by rw [List.drop_eq_getElem_cons h]; rfl
  rw [h1, ← allL_append, List.take_append_drop]
theorem deepL_take {l : List Nd} {i : Nat} (h : i < l.length) : deepL (l.take (i + 1)) = max (deepL (l.take i)) (deepE l[i]) := by
  induction l generalizing i with
  | nil => simp at h
  | cons x l ih =>
    cases i with
    | zero => simp [deepL]
    | succ i =>
      have := ih (i := i) (by simpa using h)
      simp only [List.take_succ_cons, deepL, List.getElem_cons_succ]
      omega
theorem sizeL_le {l : List Nd} (i : Nat) : sizeL (l.take i) ≤ sizeL l := by
  induction l generalizing i with
  | nil => simp [sizeL]
  | cons x l ih =>
    cases i with
    | zero => simp [sizeL]
    | succ i =>
      have := ih i
      simp only [List.take_succ_cons, sizeL]
      omega
theorem sizeL_mem {l : List Nd} {n : Nd} (h : n ∈ l) : sizeE n ≤ sizeL l := by
  induction l with
  | nil => cases h
  | cons x l ih =>
    simp only [sizeL]
    rcases List.mem_cons.1 h with rfl | h
    · omega
    · have := ih h; omega
theorem len_sizeL (l : List Nd) : l.length ≤ sizeL l := by
  induction l with
  | nil => simp
  | cons x l ih =>
    simp only [sizeL, List.length_cons]
    have := sizeE_eq x
    omega
theorem deep_size (n : Nd) : deepE n ≤ sizeE n := by
  induction n using Nd.ind with
  | h n ih =>
    rw [deepE_eq, sizeE_eq]
    have : ∀ l : List Nd, (∀ k ∈ l, deepE k ≤ sizeE k) → deepL l ≤ sizeL l := fun l => by
      induction l with
      | nil => intro _; simp [deepL, sizeL]
      | cons x l ih2 =>
        intro h
        have h1 := h x (List.mem_cons_self ..)
        have h2 := ih2 fun k hk => h k (List.mem_cons_of_mem _ hk)
        simp only [deepL, sizeL]
        omega
    have := this n.k ih
    omega
/-- A function on trees, known for the smaller ones. -/
noncomputable def gN (N : Nat) (v : Nd → AV) (xs : List AV) : Option AV :=
  match xs with
  | [.agg c] => match cNd.un c with
    | some k => if SizeOf.sizeOf k < N ∧ sizeE k < MB then some (v k) else none
    | none => none
  | _ => none
theorem gN_of {N : Nat} {v : Nd → AV} (k : Nd) (h1 : SizeOf.sizeOf k < N) (h2 : sizeE k < MB) : gN N v [.agg k.cs] = some (v k) := by
  have u2 : cNd.un k.cs = some k := cNd.un_cs k
  simp [gN, u2, h1, h2]
theorem gN_ok {E : Env} {N : Nat} {v : Nd → AV} {f : FuncId} (ih : ∀ (k : Nd) (s : St), SizeOf.sizeOf k < N → sizeE k < MB → FT E NoW f [.agg k.cs] s (v k) s) (xs : List AV) (s : St) (r : AV) (h : gN N v xs = some r) : FT E NoW f xs s r s := by
  unfold gN at h
  split at h
  · split at h
    · rename_i hu
      split at h
      · rename_i hc
        cases h
        rw [cNd.cs_un _ _ hu]
        exact ih _ s hc.1 hc.2
      · cases h
    · cases h
  · cases h
section
variable {K : Nat} {gw : World} {s : St}
attribute [local simp] awanted xop zOf cz zrow aop ev T0 Slots.put Slots.set Slots.get awr WOk AV.may ofConst abinop aint isConst St.get_push St.get_put St.live AV.fit AV.cells AV.one fieldOf afieldAddr aload ofCells astore splice May eqres env_ti FinP FinZ FinW ares aresL ares1 Fns.addP Fns.add Fns.a0 Fns.a1 Fns.a2 Fns.a3 Fns.a4 abuiltin alenOk alen aindex elemOfT elemId abuildSlice afill chunks ard aappend isSS AV.isStr aminmax placesOf abuild afield aidx isStrD isStrDesc astrop aslice asliceOk abound arange anext aextract aunop aeq AV.ck avseq aveq aconv aconvert onB_t onB_f List.range_succ
theorem ft_RSize {N : Nat} (ih : ∀ (k : Nd) (s : St), SizeOf.sizeOf k < N → sizeE k < MB → FT (env K gw) NoW 12 [.agg k.cs] s (.int .i64 (sizeE k)) s) (n : Nd) (hN : ∀ k ∈ n.k, SizeOf.sizeOf k < N) (hn : sizeE n < MB) :
    FT (env K gw) NoW 12 [.agg n.cs] s (.int .i64 (sizeE n)) s := by
  have hok : FOk (env K gw) (F0.addP 12 (gN N fun k => .int .i64 (sizeE k))) := F0_ok.addP (gN_ok ih)
  have hcs := Nd.cs_eq n
  rw [sizeE_eq] at hn
  have hlen := len_sizeL n.k
  refine FT.pure (fn := Tryz.f12) hok mixed Tryz.func12 (by kernel_rfl) (by rfl) rfl rfl (by simp) rfl fun μ w => ?_
  repeat' (first
    | refine WP.t ?_ | refine WP.k ?_ | refine WP.e ?_ | refine Qn ?_ | refine Qr ?_ | refine Qe ?_ | refine Bn ?_ | refine Br ?_ | refine Be ?_ | refine Bx (by decide) ?_
    | (refine RS.nl ?_; refine hk _ _ ?_; clear hk k)
    | ((first | refine RS.st fun A B hA hB => ?_ | refine RQ.st fun A B hA hB => ?_); simp [hcs, onW_t, onW_f, onV_s]; first | ((first | refine hA _ _ _ ?_ ?_ | refine hA _ _ _ ?_ (by first | exact .inl rfl | exact .inr (by decide)) ?_); (focus (simp [hcs] <;> omega)); clear hA hB A B) | (refine hB ?_; clear hA hB A B) | (refine onV_if ?_ ?_; (focus (first | omega | (refine ⟨?_, ?_⟩ <;> omega))); simp only [onV_s]; (first | refine hA _ _ _ ?_ ?_ | refine hA _ _ _ ?_ (by first | exact .inl rfl | exact .inr (by decide)) ?_); (focus (simp [hcs] <;> omega)); clear hA hB A B))
    | (refine RQ.nl ?_; refine hk _ _ ?_; clear hk k)
    | refine WP.sr fun k hk => ?_ | refine WP.r fun k hk => ?_
    | refine WP.sd _ rfl fun k hk => ?_ | refine WP.d _ rfl fun k hk => ?_
    | (refine WP.cc fun A B hA hB => ?_; simp [hcs, onB_t, onB_f]; first | (refine hA ?_; clear hA hB A B) | (refine hB ?_; clear hA hB A B) | (refine onB_if (fun h => hA ?_) (fun h => hB ?_) <;> clear hA hB A B))
    | refine WP.q ?_ | refine WP.b ?_)
  refine WP_loop (fun m T s' => ∃ i : Nat, m + i = n.k.length ∧ T.get 1 = .ptr s.nx 0 ∧ T.get 3 = .int .i64 (1 + sizeL (n.k.take i) : Nat) ∧ T.get 4 = .int .i64 i ∧ s.nx < s'.nx ∧ s'.get s.nx = some (.var 34 [.str n.f.p, .sl (n.f.a.map V.cs), .int .i64 n.r, .sl (n.k.map Nd.cs)])) n.k.length ⟨0, by simp, by simp, by simp [sizeL], by simp, by simp, by simp⟩ ?_
  rintro m T s' ⟨i, hmi, h1, h3, h4, hnx, hg⟩
  by_cases hi : i < n.k.length
  · have hw : IntKind.i64.wrap ((i : Int) + 1) = (i : Int) + 1 := wrap64 (by omega) (by simp only [MB] at hn; omega)
    have hlt : ((i : Int) < (n.k.length : Int)) := by omega
    have hb : n.k[i]? = some n.k[i] := List.getElem?_eq_getElem hi
    have htk := sizeL_take hi
    have htl := sizeL_le (l := n.k) (i + 1)
    have hm := List.getElem_mem hi
    have hsm := sizeL_mem hm
    have hcall := gN_of (N := N) (v := fun k => .int .i64 (sizeE k)) n.k[i] (hN _ hm) (by omega)
    generalize hx : n.k[i] = x at *
    have hkcs := Nd.cs_eq x
    have hw2 : IntKind.i64.wrap (((1 + sizeL (n.k.take i) : Nat) : Int) + ((sizeE x : Nat) : Int)) = ((1 + sizeL (n.k.take (i + 1)) : Nat) : Int) := by rw [wrap64 (by omega) (by simp only [MB] at hn; omega)]; omega
    rw [hkcs] at hcall
    repeat' (first
      | refine WP.t ?_ | refine WP.k ?_ | refine WP.e ?_ | refine Qn ?_ | refine Qr ?_ | refine Qe ?_ | refine Bn ?_ | refine Br ?_ | refine Be ?_ | refine Bx (by decide) ?_
      | (refine RS.nl ?_; refine hk _ _ ?_; clear hk k)
      | ((first | refine RS.st fun A B hA hB => ?_ | refine RQ.st fun A B hA hB => ?_); simp [h1, h3, h4, hnx, hg, hlt, hi, hb, hx, hw, hkcs, hcall, hw2, onW_t, onW_f, onV_s]; first | ((first | refine hA _ _ _ ?_ ?_ | refine hA _ _ _ ?_ (by first | exact .inl rfl | exact .inr (by decide)) ?_); (focus (simp [h1, h3, h4, hnx, hg, hlt, hi, hb, hx, hw, hkcs, hcall, hw2] <;> omega)); clear hA hB A B) | (refine hB ?_; clear hA hB A B) | (refine onV_if ?_ ?_; (focus (first | omega | (refine ⟨?_, ?_⟩ <;> omega))); simp only [onV_s]; (first | refine hA _ _ _ ?_ ?_ | refine hA _ _ _ ?_ (by first | exact .inl rfl | exact .inr (by decide)) ?_); (focus (simp [h1, h3, h4, hnx, hg, hlt, hi, hb, hx, hw, hkcs, hcall, hw2] <;> omega)); clear hA hB A B))
      | (refine RQ.nl ?_; refine hk _ _ ?_; clear hk k)
      | refine WP.sr fun k hk => ?_ | refine WP.r fun k hk => ?_
      | refine WP.sd _ rfl fun k hk => ?_ | refine WP.d _ rfl fun k hk => ?_
      | (refine WP.cc fun A B hA hB => ?_; simp [h1, h3, h4, hnx, hg, hlt, hi, hb, hx, hw, hkcs, hcall, hw2, onB_t, onB_f]; first | (refine hA ?_; clear hA hB A B) | (refine hB ?_; clear hA hB A B) | (refine onB_if (fun h => hA ?_) (fun h => hB ?_) <;> clear hA hB A B))
      | refine WP.q ?_ | refine WP.b ?_)
    refine ⟨m - 1, by omega, i + 1, by omega, by simp [h1], by simp; simpa using hw2, by simp, by simp [hnx], by simp [hg]⟩
  · have hlt : ¬ ((i : Int) < (n.k.length : Int)) := by omega
    have he : n.k.take i = n.k := List.take_of_length_le (by omega)
    rw [he] at h3
    repeat' (first
      | refine WP.t ?_ | refine WP.k ?_ | refine WP.e ?_ | refine Qn ?_ | refine Qr ?_ | refine Qe ?_ | refine Bn ?_ | refine Br ?_ | refine Be ?_ | refine Bx (by decide) ?_
      | (refine RS.nl ?_; refine hk _ _ ?_; clear hk k)
      | ((first | refine RS.st fun A B hA hB => ?_ | refine RQ.st fun A B hA hB => ?_); simp [h1, h3, h4, hnx, hg, hlt, onW_t, onW_f, onV_s]; first | ((first | refine hA _ _ _ ?_ ?_ | refine hA _ _ _ ?_ (by first | exact .inl rfl | exact .inr (by decide)) ?_); (focus (simp [h1, h3, h4, hnx, hg, hlt] <;> omega)); clear hA hB A B) | (refine hB ?_; clear hA hB A B) | (refine onV_if ?_ ?_; (focus (first | omega | (refine ⟨?_, ?_⟩ <;> omega))); simp only [onV_s]; (first | refine hA _ _ _ ?_ ?_ | refine hA _ _ _ ?_ (by first | exact .inl rfl | exact .inr (by decide)) ?_); (focus (simp [h1, h3, h4, hnx, hg, hlt] <;> omega)); clear hA hB A B))
      | (refine RQ.nl ?_; refine hk _ _ ?_; clear hk k)
      | refine WP.sr fun k hk => ?_ | refine WP.r fun k hk => ?_
      | refine WP.sd _ rfl fun k hk => ?_ | refine WP.d _ rfl fun k hk => ?_
      | (refine WP.cc fun A B hA hB => ?_; simp [h1, h3, h4, hnx, hg, hlt, onB_t, onB_f]; first | (refine hA ?_; clear hA hB A B) | (refine hB ?_; clear hA hB A B) | (refine onB_if (fun h => hA ?_) (fun h => hB ?_) <;> clear hA hB A B))
      | refine WP.q ?_ | refine WP.b ?_)
    rw [sizeE_eq]
    simp [h3]
theorem ft_Deep {N : Nat} (ih : ∀ (k : Nd) (s : St), SizeOf.sizeOf k < N → sizeE k < MB → FT (env K gw) NoW 13 [.agg k.cs] s (.int .i64 (deepE k)) s) (n : Nd) (hN : ∀ k ∈ n.k, SizeOf.sizeOf k < N) (hn : sizeE n < MB) :
    FT (env K gw) NoW 13 [.agg n.cs] s (.int .i64 (deepE n)) s := by
  have hok : FOk (env K gw) (F0.addP 13 (gN N fun k => .int .i64 (deepE k))) := F0_ok.addP (gN_ok ih)
  have hcs := Nd.cs_eq n
  have hds := deep_size n
  rw [sizeE_eq] at hn hds
  have hlen := len_sizeL n.k
  refine FT.pure (fn := Tryz.f13) hok mixed Tryz.func13 (by kernel_rfl) (by rfl) rfl rfl (by simp) rfl fun μ w => ?_
  repeat' (first
    | refine WP.t ?_ | refine WP.k ?_ | refine WP.e ?_ | refine Qn ?_ | refine Qr ?_ | refine Qe ?_ | refine Bn ?_ | refine Br ?_ | refine Be ?_ | refine Bx (by decide) ?_
    | (refine RS.nl ?_; refine hk _ _ ?_; clear hk k)
    | ((first | refine RS.st fun A B hA hB => ?_ | refine RQ.st fun A B hA hB => ?_); simp [hcs, onW_t, onW_f, onV_s]; first | ((first | refine hA _ _ _ ?_ ?_ | refine hA _ _ _ ?_ (by first | exact .inl rfl | exact .inr (by decide)) ?_); (focus (simp [hcs] <;> omega)); clear hA hB A B) | (refine hB ?_; clear hA hB A B) | (refine onV_if ?_ ?_; (focus (first | omega | (refine ⟨?_, ?_⟩ <;> omega))); simp only [onV_s]; (first | refine hA _ _ _ ?_ ?_ | refine hA _ _ _ ?_ (by first | exact .inl rfl | exact .inr (by decide)) ?_); (focus (simp [hcs] <;> omega)); clear hA hB A B))
    | (refine RQ.nl ?_; refine hk _ _ ?_; clear hk k)
    | refine WP.sr fun k hk => ?_ | refine WP.r fun k hk => ?_
    | refine WP.sd _ rfl fun k hk => ?_ | refine WP.d _ rfl fun k hk => ?_
    | (refine WP.cc fun A B hA hB => ?_; simp [hcs, onB_t, onB_f]; first | (refine hA ?_; clear hA hB A B) | (refine hB ?_; clear hA hB A B) | (refine onB_if (fun h => hA ?_) (fun h => hB ?_) <;> clear hA hB A B))
    | refine WP.q ?_ | refine WP.b ?_)
  refine WP_loop (fun m T s' => ∃ i : Nat, m + i = n.k.length ∧ T.get 3 = .int .i64 (deepL (n.k.take i) : Nat) ∧ T.get 7 = .sl (n.k.map Nd.cs) ∧ T.get 8 = .int .i64 n.k.length ∧ T.get 9 = .int .i64 i ∧ s.nx ≤ s'.nx) n.k.length ⟨0, by simp, by simp [deepL], by simp, by simp, by simp, by simp⟩ ?_
  rintro m T s' ⟨i, hmi, h3, h7, h8, h9, hnx⟩
  by_cases hi : i < n.k.length
  · have hw : IntKind.i64.wrap ((i : Int) + 1) = (i : Int) + 1 := wrap64 (by omega) (by simp only [MB] at hn; omega)
    have hlt : ((i : Int) < (n.k.length : Int)) := by omega
    have hb : n.k[i]? = some n.k[i] := List.getElem?_eq_getElem hi
    have htk := deepL_take hi
    have hm := List.getElem_mem hi
    have hsm := sizeL_mem hm
    have hcall := gN_of (N := N) (v := fun k => .int .i64 (deepE k)) n.k[i] (hN _ hm) (by omega)
    generalize hx : n.k[i] = x at *
    have hkcs := Nd.cs_eq x
    rw [hkcs] at hcall
    repeat' (first
      | refine WP.t ?_ | refine WP.k ?_ | refine WP.e ?_ | refine Qn ?_ | refine Qr ?_ | refine Qe ?_ | refine Bn ?_ | refine Br ?_ | refine Be ?_ | refine Bx (by decide) ?_
      | (refine RS.nl ?_; refine hk _ _ ?_; clear hk k)
      | ((first | refine RS.st fun A B hA hB => ?_ | refine RQ.st fun A B hA hB => ?_); simp [h3, h7, h8, h9, hnx, hlt, hi, hb, hx, hw, hkcs, hcall, onW_t, onW_f, onV_s]; first | ((first | refine hA _ _ _ ?_ ?_ | refine hA _ _ _ ?_ (by first | exact .inl rfl | exact .inr (by decide)) ?_); (focus (simp [h3, h7, h8, h9, hnx, hlt, hi, hb, hx, hw, hkcs, hcall] <;> omega)); clear hA hB A B) | (refine hB ?_; clear hA hB A B) | (refine onV_if ?_ ?_; (focus (first | omega | (refine ⟨?_, ?_⟩ <;> omega))); simp only [onV_s]; (first | refine hA _ _ _ ?_ ?_ | refine hA _ _ _ ?_ (by first | exact .inl rfl | exact .inr (by decide)) ?_); (focus (simp [h3, h7, h8, h9, hnx, hlt, hi, hb, hx, hw, hkcs, hcall] <;> omega)); clear hA hB A B))
      | (refine RQ.nl ?_; refine hk _ _ ?_; clear hk k)
      | refine WP.sr fun k hk => ?_ | refine WP.r fun k hk => ?_
      | refine WP.sd _ rfl fun k hk => ?_ | refine WP.d _ rfl fun k hk => ?_
      | (refine WP.cc fun A B hA hB => ?_; simp [h3, h7, h8, h9, hnx, hlt, hi, hb, hx, hw, hkcs, hcall, onB_t, onB_f]; first | (refine hA ?_; clear hA hB A B) | (refine hB ?_; clear hA hB A B) | (refine onB_if (fun h => hA ?_) (fun h => hB ?_) <;> clear hA hB A B))
      | refine WP.q ?_ | refine WP.b ?_)
    refine ⟨m - 1, by omega, i + 1, by omega, ?_, by simp [h7], by simp [h8], by simp, by simp; omega⟩
    simp
    omega
  · have hlt : ¬ ((i : Int) < (n.k.length : Int)) := by omega
    have he : n.k.take i = n.k := List.take_of_length_le (by omega)
    rw [he] at h3
    have hw3 : IntKind.i64.wrap (1 + (deepL n.k : Int)) = 1 + (deepL n.k : Int) := wrap64 (by omega) (by rw [deepE_eq] at hds; simp only [MB] at hn; omega)
    repeat' (first
      | refine WP.t ?_ | refine WP.k ?_ | refine WP.e ?_ | refine Qn ?_ | refine Qr ?_ | refine Qe ?_ | refine Bn ?_ | refine Br ?_ | refine Be ?_ | refine Bx (by decide) ?_
      | (refine RS.nl ?_; refine hk _ _ ?_; clear hk k)
      | ((first | refine RS.st fun A B hA hB => ?_ | refine RQ.st fun A B hA hB => ?_); simp [h3, h7, h8, h9, hlt, hw3, onW_t, onW_f, onV_s]; first | ((first | refine hA _ _ _ ?_ ?_ | refine hA _ _ _ ?_ (by first | exact .inl rfl | exact .inr (by decide)) ?_); (focus (simp [h3, h7, h8, h9, hlt, hw3] <;> omega)); clear hA hB A B) | (refine hB ?_; clear hA hB A B) | (refine onV_if ?_ ?_; (focus (first | omega | (refine ⟨?_, ?_⟩ <;> omega))); simp only [onV_s]; (first | refine hA _ _ _ ?_ ?_ | refine hA _ _ _ ?_ (by first | exact .inl rfl | exact .inr (by decide)) ?_); (focus (simp [h3, h7, h8, h9, hlt, hw3] <;> omega)); clear hA hB A B))
      | (refine RQ.nl ?_; refine hk _ _ ?_; clear hk k)
      | refine WP.sr fun k hk => ?_ | refine WP.r fun k hk => ?_
      | refine WP.sd _ rfl fun k hk => ?_ | refine WP.d _ rfl fun k hk => ?_
      | (refine WP.cc fun A B hA hB => ?_; simp [h3, h7, h8, h9, hlt, hw3, onB_t, onB_f]; first | (refine hA ?_; clear hA hB A B) | (refine hB ?_; clear hA hB A B) | (refine onB_if (fun h => hA ?_) (fun h => hB ?_) <;> clear hA hB A B))
      | refine WP.q ?_ | refine WP.b ?_)
    rw [deepE_eq]
    simp
    omega
theorem byN {v : Nd → AV} {f : FuncId} (h : ∀ (N : Nat), (∀ (k : Nd) (s : St), SizeOf.sizeOf k < N → sizeE k < MB → FT (env K gw) NoW f [.agg k.cs] s (v k) s) → ∀ (n : Nd) (s : St), (∀ k ∈ n.k, SizeOf.sizeOf k < N) → sizeE n < MB → FT (env K gw) NoW f [.agg n.cs] s (v n) s) (n : Nd) (s : St) (hn : sizeE n < MB) :
    FT (env K gw) NoW f [.agg n.cs] s (v n) s := by
  have key : ∀ N (k : Nd) (s : St), SizeOf.sizeOf k < N → sizeE k < MB → FT (env K gw) NoW f [.agg k.cs] s (v k) s := fun N => by
    induction N with
    | zero => exact fun k s hk => absurd hk (Nat.not_lt_zero _)
    | succ N ih => exact fun k s hk hs => h N ih k s (fun c hc => by have := Nd.kid_lt hc; omega) hs
  exact key _ n s (Nat.lt_succ_self _) hn
theorem ft_RSize' (n : Nd) (hn : sizeE n < MB) : FT (env K gw) NoW 12 [.agg n.cs] s (.int .i64 (sizeE n)) s := byN (v := fun k => .int .i64 (sizeE k)) (fun N ih n s h1 h2 => ft_RSize ih n h1 h2) n s hn
theorem ft_Deep' (n : Nd) (hn : sizeE n < MB) : FT (env K gw) NoW 13 [.agg n.cs] s (.int .i64 (deepE n)) s := byN (v := fun k => .int .i64 (deepE k)) (fun N ih n s h1 h2 => ft_Deep ih n h1 h2) n s hn
end
end Go.Am
