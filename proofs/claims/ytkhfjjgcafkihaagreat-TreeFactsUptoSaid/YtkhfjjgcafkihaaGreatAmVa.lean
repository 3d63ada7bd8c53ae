/- Part of the proof: abstract values over the given model of Go (V1, P1, V2). Conditions: none of its own; see the statement in the seat's Rows text. -/
import Derived.Test.YtkhfjjgcafkihaaGreatAmNa
import Derived.Test.YtkhfjjgcafkihaaGreatAmSix
import Derived.Test.YtkhfjjgcafkihaaGreatAmUe
set_option linter.unusedSimpArgs false
set_option linter.unusedVariables false
set_option linter.unusedSectionVars false
namespace Go.Am
open Go.Proofs
/-- tree.Size, for trees that are not deep. -/
def gSizeC (xs : List AV) : Option AV :=
  match xs with
  | [.agg c] => match unNd 50 c with
    | some n => if sizeE n < MB then some (.int .i64 (sizeE n)) else none
    | none => none
  | _ => none
def FS : Fns := F15.addD 20 11 gSizeC
section
variable {K : Nat} {gw : World} {s : St}
theorem FS_ok : FOk (env K gw) FS := F15_ok.addD fun xs s r h => by
  unfold gSizeC at h
  split at h
  · split at h
    · rename_i hu
      split at h
      · rename_i hn
        cases h
        rw [unNd_eq hu]
        exact ft_Size _ hn
      · cases h
    · cases h
  · cases h
theorem shown_run : goP (env K gw) 1000 (tab (env K gw) FS (chkF Tryz.prog) (fun _ => false) 1000 24).G (tab (env K gw) FS (chkF Tryz.prog) (fun _ => false) 1000 24).H 5 [] ⟨0, fun _ => none⟩ = some (.bool true) := by kernel_rfl
theorem ft_shown : FT (env K gw) NoW 5 [] s (.bool true) s := FT.ofRun FS_ok (by kernel_rfl) (fun f h => h) (by kernel_rfl) shown_run s
end
end Go.Am
namespace Go.Am
open Go.Proofs
/-! ### plain laws of trees -/
theorem bl_irr : ∀ x : List UInt8, Op.bytesLess x x = false
  | [] => rfl
  | a :: x => by simp [Op.bytesLess, bl_irr x]
theorem cmpS_self (x : List UInt8) : cmpS x x = 0 := by simp [cmpS, bl_irr]
theorem cmpV_self (v : V) : cmpV v v = 0 := by
  unfold cmpV
  cases v.b
  · simp [cmpI]
  · simp [cmpS_self]
theorem cmpT_self : ∀ x : List V, cmpT x x = 0
  | [] => rfl
  | a :: x => by simp [cmpT, cmpV_self, cmpT_self x]
theorem cmpF_self (f : Fc) : cmpF f f = 0 := by simp [cmpF, cmpS_self, cmpT_self]
theorem proves_mono {g : Pg} {fs : List Fc} (n : Nd) : ∀ {ab ab' : List Fc}, (∀ x ∈ ab', x ∈ ab) → provesE g fs n ab = true → provesE g fs n ab' = true := by
  induction n using Nd.ind with
  | h n ih =>
    intro ab ab' hs h
    rw [provesE_eq] at h ⊢
    simp only [Bool.and_eq_true, Bool.not_eq_true', List.all_eq_true] at h ⊢
    obtain ⟨⟨h1, h2⟩, h3⟩ := h
    refine ⟨⟨?_, h2⟩, fun k hk => ih k hk (fun x hx => ?_) (h3 k hk)⟩
    · rw [List.any_eq_false] at h1 ⊢
      exact fun x hx => h1 x (hs x hx)
    · rcases List.mem_append.1 hx with hx | hx
      · exact List.mem_append_left _ (hs x hx)
      · exact List.mem_append_right _ hx
theorem mem_allL {m : Nd} : ∀ {l : List Nd}, m ∈ allL l ↔ ∃ k ∈ l, m ∈ allE k
  | [] => by simp [allL]
  | x :: l => by
    simp only [allL, List.mem_append, mem_allL (l := l), List.mem_cons]
    constructor
    · rintro (h | ⟨y, h1, h2⟩)
      · exact ⟨x, .inl rfl, h⟩
      · exact ⟨y, .inr h1, h2⟩
    · rintro ⟨y, rfl | h1, h2⟩
      · exact .inl h2
      · exact .inr ⟨y, h1, h2⟩
theorem mem_allE {m n : Nd} : m ∈ allE n ↔ m = n ∨ ∃ k ∈ n.k, m ∈ allE k := by rw [allE_eq, List.mem_cons, mem_allL]
theorem parts {g : Pg} {fs : List Fc} (n : Nd) : ∀ {ab : List Fc}, provesE g fs n ab = true → ∀ m ∈ allE n, provesE g fs m [] = true := by
  induction n using Nd.ind with
  | h n ih =>
    intro ab h m hm
    rcases mem_allE.1 hm with rfl | ⟨x, h1, h2⟩
    · exact proves_mono _ (fun x hx => by cases hx) h
    · rw [provesE_eq] at h
      simp only [Bool.and_eq_true, List.all_eq_true] at h
      exact ih x h1 (h.2 x h1) m h2
theorem part_size (n : Nd) : ∀ m ∈ allE n, sizeE m ≤ sizeE n ∧ deepE m ≤ deepE n := by
  induction n using Nd.ind with
  | h n ih =>
    intro m hm
    rcases mem_allE.1 hm with rfl | ⟨x, h1, h2⟩
    · exact ⟨Nat.le_refl _, Nat.le_refl _⟩
    · have h3 := ih x h1 m h2
      have h4 := sizeL_mem h1
      have h5 := deepL_mem h1
      rw [sizeE_eq n, deepE_eq n]
      omega
theorem part_ok (n : Nd) : okT n = true → ∀ m ∈ allE n, okT m = true := by
  induction n using Nd.ind with
  | h n ih =>
    intro h m hm
    rcases mem_allE.1 hm with rfl | ⟨x, h1, h2⟩
    · exact h
    · exact ih x h1 ((okT_iff.1 h).2.2 x h1) m h2
/-- How many kids a rule asks for. -/
def asks (b : List Lit) : Nat := (b.filter fun l => l.kind = 1).length
theorem solveL_cnt : ∀ {b : List Lit} {l l' : List Nd} {e e' : Envr}, solveL b l e = some (e', l') → l.length = asks b + l'.length
  | [], l, l', e, e', h => by cases h; simp [asks]
  | x :: b, l, l', e, e', h => by
    simp only [solveL] at h
    split at h
    · rename_i hk
      split at h
      · cases h
      · split at h
        · split at h
          · cases h
          · have := solveL_cnt h
            simp only [asks, List.filter_cons, hk, decide_true, if_true, List.length_cons] at this ⊢
            omega
        · cases h
    · rename_i hk
      have := solveL_cnt h
      simp only [asks, List.filter_cons, hk, decide_false] at this ⊢
      simpa using this
theorem solvedT_cnt {r : Rl} {n : Nd} (h : (solvedT r n).2 = true) : n.k.length = asks r.body := by
  unfold solvedT at h
  split at h
  · cases h
  · split at h
    · split at h
      · cases h
      · rename_i hs
        have := solveL_cnt hs
        simp only [decide_eq_true_eq] at h
        omega
    · cases h
theorem standsE_cnt {g : Pg} {fs : List Fc} {n : Nd} (h : standsE g fs n = true) : ∃ j r, n.r = Int.ofNat j ∧ g.rules[j]? = some r ∧ n.k.length = asks r.body := by
  unfold standsE at h
  split at h
  · cases h
  · rename_i hneg
    split at h
    · cases h
    · rename_i r hr
      simp only [Bool.and_eq_true] at h
      exact ⟨_, r, (Int.toNat_of_nonneg (Int.not_lt.1 hneg)).symm, hr, solvedT_cnt h.1⟩
theorem provesE_stands {g : Pg} {fs : List Fc} {n : Nd} {ab : List Fc} (h : provesE g fs n ab = true) : standsE g fs n = true := by
  rw [provesE_eq] at h
  simp only [Bool.and_eq_true] at h
  exact h.1.2
/-- With other kids, more or less, it doesn't prove. -/
theorem breaks_kids {g : Pg} {fs : List Fc} {f f' : Fc} {r : Int} {l l' : List Nd} {ab ab' : List Fc} (h : provesE g fs (.mk f r l) ab = true) (hl : l'.length ≠ l.length) : provesE g fs (.mk f' r l') ab' = false := by
  cases h' : provesE g fs (.mk f' r l') ab' with
  | false => rfl
  | true =>
    obtain ⟨j, x, h1, h2, h3⟩ := standsE_cnt (provesE_stands h)
    obtain ⟨j', x', h1', h2', h3'⟩ := standsE_cnt (provesE_stands h')
    simp only [Nd.r, Nd.k] at h1 h1' h3 h3'
    obtain rfl : j = j' := by rw [h1] at h1'; exact Int.ofNat.inj h1'
    rw [h2] at h2'
    cases h2'
    omega
theorem breaks_rule {g : Pg} {fs : List Fc} {f : Fc} {r : Int} {l : List Nd} {ab : List Fc} (hr : r < 0 ∨ (g.rules.length : Int) ≤ r) : provesE g fs (.mk f r l) ab = false := by
  cases h' : provesE g fs (.mk f r l) ab with
  | false => rfl
  | true =>
    obtain ⟨j, x, h1, h2, h3⟩ := standsE_cnt (provesE_stands h')
    simp only [Nd.r] at h1
    have := (List.getElem?_eq_some_iff.1 h2).1
    rw [h1] at hr
    rcases hr with hr | hr
    · have : (0 : Int) ≤ Int.ofNat j := Int.natCast_nonneg j
      omega
    · have : (g.rules.length : Int) ≤ (j : Int) := hr
      omega
/-- A root that stands on itself. -/
theorem breaks_self {g : Pg} {fs : List Fc} {n : Nd} {f : Fc} {r : Int} {l : List Nd} {ab : List Fc} (hf : n.f = f) : provesE g fs (.mk f r (n :: l)) ab = false := by
  have h1 : provesE g fs n (ab ++ [f]) = false := by
    rw [provesE_eq, hf]
    simp [cmpF_self]
  rw [provesE_eq]
  simp only [show (Nd.mk f r (n :: l)).f = f from rfl, show (Nd.mk f r (n :: l)).k = n :: l from rfl, List.all_cons, h1]
  simp
end Go.Am
namespace Go.Am
open Go.Proofs
/-- A function on trees. -/
noncomputable def gNd (v : Nd → AV) (xs : List AV) : Option AV :=
  match xs with
  | [.agg c] => match cNd.un c with
    | some n => if sizeE n < MB then some (v n) else none
    | none => none
  | _ => none
theorem gNd_of {v : Nd → AV} (n : Nd) (h : sizeE n < MB) : gNd v [.agg n.cs] = some (v n) := by
  have u : cNd.un n.cs = some n := cNd.un_cs n
  simp [gNd, u, h]
theorem gNd_ok {E : Env} {v : Nd → AV} {f : FuncId} (hv : ∀ (n : Nd) (s : St), sizeE n < MB → FT E NoW f [.agg n.cs] s (v n) s) (xs : List AV) (s : St) (r : AV) (h : gNd v xs = some r) : FT E NoW f xs s r s := by
  unfold gNd at h
  split at h
  · split at h
    · rename_i hu
      split at h
      · rename_i hc
        cases h
        rw [cNd.cs_un _ _ hu]
        exact hv _ s hc
      · cases h
    · cases h
  · cases h
def fewR (r : Rl) : Bool := !decide (3 < r.body.length) && !decide (3 < r.head.a.length) && r.body.all fun l => !decide (3 < l.atom.a.length)
def fewE (g : Pg) (fs : List Fc) (n : Nd) : Bool := (g.rules.take 11).all fewR && (decide (g.rules.length ≤ 10) && (decide (fs.length ≤ 60) && decide (sizeE n ≤ 60)))
theorem few_bad {g : Pg} {fs : List Fc} {n : Nd} {i : Nat} {r : Rl} (h1 : i < 11) (h2 : g.rules[i]? = some r) (h3 : fewR r = false) : fewE g fs n = false := by
  have : (g.rules.take 11).all fewR = false := by
    rw [List.all_eq_false]
    exact ⟨r, List.mem_of_getElem? (i := i) (by rw [List.getElem?_take, if_pos h1]; exact h2), by simp [h3]⟩
  simp [fewE, this]
theorem few_end {g : Pg} {fs : List Fc} {n : Nd} {i : Nat} (h1 : i ≤ 11) (h2 : i = g.rules.length ∨ i = 11) (h3 : (g.rules.take i).all fewR = true) : fewE g fs n = (decide (g.rules.length ≤ 10) && (decide (fs.length ≤ 60) && decide (sizeE n ≤ 60))) := by
  have : g.rules.take 11 = g.rules.take i := by
    rcases h2 with h | h
    · rw [List.take_of_length_le (by omega), List.take_of_length_le (by omega)]
    · rw [h]
  simp [fewE, this, h3]
theorem all_take {α : Type} {p : α → Bool} {l : List α} {i : Nat} {x : α} (h : l[i]? = some x) (h1 : (l.take i).all p = true) (h2 : p x = true) : (l.take (i + 1)).all p = true := by
  rw [List.take_add_one, List.all_append, h1, h]
  simp [h2]
section
variable {K : Nat} {gw : World} {s : St}
attribute [local simp] awanted xop zOf cz zrow aop ev T0 Slots.put Slots.set Slots.get awr WOk AV.may ofConst abinop aint isConst St.get_push St.get_put St.live AV.fit AV.cells AV.one fieldOf afieldAddr aload ofCells astore splice May eqres env_ti FinP FinZ FinW ares aresL ares1 Fns.addP Fns.add Fns.a0 Fns.a1 Fns.a2 Fns.a3 Fns.a4 abuiltin alenOk alen aindex elemOfT elemId abuildSlice afill chunks ard aappend isSS AV.isStr aminmax placesOf abuild afield aidx isStrD isStrDesc astrop aslice asliceOk abound arange anext aextract aunop aeq AV.ck avseq aveq aconv aconvert onB_t onB_f List.range_succ
noncomputable def FR : Fns := F0.addP 12 (gNd fun n => .int .i64 (sizeE n))
theorem FR_ok : FOk (env K gw) FR := F0_ok.addP (gNd_ok fun n s h => ft_RSize' n h)
theorem FR_size (n : Nd) (h : sizeE n < MB) (s2 : St) : FR 12 [.agg n.cs] s2 = some (.int .i64 (sizeE n), s2, []) := by
  have := gNd_of (v := fun n => .int .i64 (sizeE n)) n h
  simp [FR, this]
set_option maxRecDepth 20000 in
set_option maxHeartbeats 4000000 in
theorem ft_few (g : Pg) (fs : List Fc) (n : Nd) (hg : g.rules.length < MB) (hb : ∀ r ∈ g.rules, r.body.length < MB) (hfs : fs.length < MB) (hn : sizeE n < MB) :
    FT (env K gw) NoW 6 [.agg g.cs, .sl (fs.map Fc.cs), .agg n.cs] s (.bool (fewE g fs n)) s := by
  have hcs := Nd.cs_eq n
  have hgcs : g.cs = [.sl (g.decls.map Dc.cs), .sl (g.rules.map Rl.cs)] := rfl
  have hsz := fun s2 => FR_size n hn s2
  rw [hcs] at hsz
  refine FT.pure (fn := Tryz.f6) FR_ok mixed Tryz.func6 (by kernel_rfl) (by rfl) rfl rfl (by simp) rfl fun μ w => ?_
  repeat' (first
    | refine WP.t ?_ | refine WP.k ?_ | refine WP.e ?_ | refine Qn ?_ | refine Qr ?_ | refine Qe ?_ | refine Bn ?_ | refine Br ?_ | refine Be ?_ | refine Bx (by decide) ?_
    | (refine RS.nl ?_; refine hk _ _ ?_; clear hk k)
    | ((first | refine RS.st fun A B hA hB => ?_ | refine RQ.st fun A B hA hB => ?_); simp [hcs, hgcs, onW_t, onW_f, onV_s]; first | ((first | refine hA _ _ _ ?_ ?_ | refine hA _ _ _ ?_ (by first | exact .inl rfl | exact .inr (by decide)) ?_); (focus (simp [hcs, hgcs] <;> omega)); clear hA hB A B) | (refine hB ?_; clear hA hB A B) | (refine onV_if ?_ ?_; (focus (first | omega | (refine ⟨?_, ?_⟩ <;> omega))); simp only [onV_s]; (first | refine hA _ _ _ ?_ ?_ | refine hA _ _ _ ?_ (by first | exact .inl rfl | exact .inr (by decide)) ?_); (focus (simp [hcs, hgcs] <;> omega)); clear hA hB A B))
    | (refine RQ.nl ?_; refine hk _ _ ?_; clear hk k)
    | refine WP.sr fun k hk => ?_ | refine WP.r fun k hk => ?_
    | refine WP.sd _ rfl fun k hk => ?_ | refine WP.d _ rfl fun k hk => ?_
    | (refine WP.cc fun A B hA hB => ?_; simp [hcs, hgcs, onB_t, onB_f]; first | (refine hA ?_; clear hA hB A B) | (refine hB ?_; clear hA hB A B) | (refine onB_if (fun h => hA ?_) (fun h => hB ?_) <;> clear hA hB A B))
    | refine WP.q ?_ | refine WP.b ?_)
  refine WP_loop (fun m T s' => ∃ i : Nat, m + i = g.rules.length ∧ i ≤ 11 ∧ (g.rules.take i).all fewR = true ∧ T.get 1 = .sl (fs.map Fc.cs) ∧ T.get 3 = .ptr s.nx 0 ∧ T.get 5 = .ptr (s.nx + 1) 0 ∧ T.get 7 = .int .i64 i ∧ s.nx + 1 < s'.nx ∧ s'.get s.nx = some (.var 25 [.sl (g.decls.map Dc.cs), .sl (g.rules.map Rl.cs)]) ∧ s'.get (s.nx + 1) = some (.var 34 [.str n.f.p, .sl (n.f.a.map V.cs), .int .i64 n.r, .sl (n.k.map Nd.cs)]))
    g.rules.length ⟨0, by simp, by simp, by simp, by simp, by simp, by simp, by simp, by simp, by simp [St.get_push], by simp [St.get_push]⟩ ?_
  rintro m T s' ⟨i, hmi, hi11, hall, h1, h3, h5, h7, hnx, hg0, hg1⟩
  by_cases hi : i < g.rules.length ∧ i < 11
  · obtain ⟨hi, hj⟩ := hi
    have hlt : ((i : Int) < (g.rules.length : Int)) := by omega
    have hlt2 : ((i : Int) < 11) := by omega
    have hw : IntKind.i64.wrap ((i : Int) + 1) = (i : Int) + 1 := wrap64 (by omega) (by omega)
    have hr : g.rules[i]? = some g.rules[i] := List.getElem?_eq_getElem hi
    have hbl := hb _ (List.getElem_mem hi)
    generalize hx : g.rules[i] = r at *
    by_cases hb1 : 3 < r.body.length
    · have hb1' : (3 : Int) < (r.body.length : Int) := by omega
      rw [few_bad hj hr (by simp [fewR, hb1])]
      repeat' (first
        | refine WP.t ?_ | refine WP.k ?_ | refine WP.e ?_ | refine Qn ?_ | refine Qr ?_ | refine Qe ?_ | refine Bn ?_ | refine Br ?_ | refine Be ?_ | refine Bx (by decide) ?_
        | (refine RS.nl ?_; refine hk _ _ ?_; clear hk k)
        | ((first | refine RS.st fun A B hA hB => ?_ | refine RQ.st fun A B hA hB => ?_); simp [h1, h3, h5, h7, hg0, hlt, hlt2, hj, hi, hx, hr, Rl.cs, hb1, hb1', onW_t, onW_f, onV_s]; first | ((first | refine hA _ _ _ ?_ ?_ | refine hA _ _ _ ?_ (by first | exact .inl rfl | exact .inr (by decide)) ?_); (focus (simp [h1, h3, h5, h7, hg0, hlt, hlt2, hj, hi, hx, hr, Rl.cs, hb1, hb1'] <;> omega)); clear hA hB A B) | (refine hB ?_; clear hA hB A B) | (refine onV_if ?_ ?_; (focus (first | omega | (refine ⟨?_, ?_⟩ <;> omega))); simp only [onV_s]; (first | refine hA _ _ _ ?_ ?_ | refine hA _ _ _ ?_ (by first | exact .inl rfl | exact .inr (by decide)) ?_); (focus (simp [h1, h3, h5, h7, hg0, hlt, hlt2, hj, hi, hx, hr, Rl.cs, hb1, hb1'] <;> omega)); clear hA hB A B))
        | (refine RQ.nl ?_; refine hk _ _ ?_; clear hk k)
        | refine WP.sr fun k hk => ?_ | refine WP.r fun k hk => ?_
        | refine WP.sd _ rfl fun k hk => ?_ | refine WP.d _ rfl fun k hk => ?_
        | (refine WP.cc fun A B hA hB => ?_; simp [h1, h3, h5, h7, hg0, hlt, hlt2, hj, hi, hx, hr, Rl.cs, hb1, hb1', onB_t, onB_f]; first | (refine hA ?_; clear hA hB A B) | (refine hB ?_; clear hA hB A B) | (refine onB_if (fun h => hA ?_) (fun h => hB ?_) <;> clear hA hB A B))
        | refine WP.q ?_ | refine WP.b ?_)
      simp
    · have hb1' : ¬ (3 : Int) < (r.body.length : Int) := by omega
      by_cases hb2 : 3 < r.head.a.length
      · have hb2' : (3 : Int) < (r.head.a.length : Int) := by omega
        rw [few_bad hj hr (by simp [fewR, hb2])]
        repeat' (first
          | refine WP.t ?_ | refine WP.k ?_ | refine WP.e ?_ | refine Qn ?_ | refine Qr ?_ | refine Qe ?_ | refine Bn ?_ | refine Br ?_ | refine Be ?_ | refine Bx (by decide) ?_
          | (refine RS.nl ?_; refine hk _ _ ?_; clear hk k)
          | ((first | refine RS.st fun A B hA hB => ?_ | refine RQ.st fun A B hA hB => ?_); simp [h1, h3, h5, h7, hg0, hlt, hlt2, hj, hi, hx, hr, Rl.cs, hb1, hb1', hb2, hb2', onW_t, onW_f, onV_s]; first | ((first | refine hA _ _ _ ?_ ?_ | refine hA _ _ _ ?_ (by first | exact .inl rfl | exact .inr (by decide)) ?_); (focus (simp [h1, h3, h5, h7, hg0, hlt, hlt2, hj, hi, hx, hr, Rl.cs, hb1, hb1', hb2, hb2'] <;> omega)); clear hA hB A B) | (refine hB ?_; clear hA hB A B) | (refine onV_if ?_ ?_; (focus (first | omega | (refine ⟨?_, ?_⟩ <;> omega))); simp only [onV_s]; (first | refine hA _ _ _ ?_ ?_ | refine hA _ _ _ ?_ (by first | exact .inl rfl | exact .inr (by decide)) ?_); (focus (simp [h1, h3, h5, h7, hg0, hlt, hlt2, hj, hi, hx, hr, Rl.cs, hb1, hb1', hb2, hb2'] <;> omega)); clear hA hB A B))
          | (refine RQ.nl ?_; refine hk _ _ ?_; clear hk k)
          | refine WP.sr fun k hk => ?_ | refine WP.r fun k hk => ?_
          | refine WP.sd _ rfl fun k hk => ?_ | refine WP.d _ rfl fun k hk => ?_
          | (refine WP.cc fun A B hA hB => ?_; simp [h1, h3, h5, h7, hg0, hlt, hlt2, hj, hi, hx, hr, Rl.cs, hb1, hb1', hb2, hb2', onB_t, onB_f]; first | (refine hA ?_; clear hA hB A B) | (refine hB ?_; clear hA hB A B) | (refine onB_if (fun h => hA ?_) (fun h => hB ?_) <;> clear hA hB A B))
          | refine WP.q ?_ | refine WP.b ?_)
        simp
      · have hb2' : ¬ (3 : Int) < (r.head.a.length : Int) := by omega
        repeat' (first
          | refine WP.t ?_ | refine WP.k ?_ | refine WP.e ?_ | refine Qn ?_ | refine Qr ?_ | refine Qe ?_ | refine Bn ?_ | refine Br ?_ | refine Be ?_ | refine Bx (by decide) ?_
          | (refine RS.nl ?_; refine hk _ _ ?_; clear hk k)
          | ((first | refine RS.st fun A B hA hB => ?_ | refine RQ.st fun A B hA hB => ?_); simp [h1, h3, h5, h7, hg0, hlt, hlt2, hj, hi, hx, hr, Rl.cs, hb1, hb1', hb2, hb2', onW_t, onW_f, onV_s]; first | ((first | refine hA _ _ _ ?_ ?_ | refine hA _ _ _ ?_ (by first | exact .inl rfl | exact .inr (by decide)) ?_); (focus (simp [h1, h3, h5, h7, hg0, hlt, hlt2, hj, hi, hx, hr, Rl.cs, hb1, hb1', hb2, hb2'] <;> omega)); clear hA hB A B) | (refine hB ?_; clear hA hB A B) | (refine onV_if ?_ ?_; (focus (first | omega | (refine ⟨?_, ?_⟩ <;> omega))); simp only [onV_s]; (first | refine hA _ _ _ ?_ ?_ | refine hA _ _ _ ?_ (by first | exact .inl rfl | exact .inr (by decide)) ?_); (focus (simp [h1, h3, h5, h7, hg0, hlt, hlt2, hj, hi, hx, hr, Rl.cs, hb1, hb1', hb2, hb2'] <;> omega)); clear hA hB A B))
          | (refine RQ.nl ?_; refine hk _ _ ?_; clear hk k)
          | refine WP.sr fun k hk => ?_ | refine WP.r fun k hk => ?_
          | refine WP.sd _ rfl fun k hk => ?_ | refine WP.d _ rfl fun k hk => ?_
          | (refine WP.cc fun A B hA hB => ?_; simp [h1, h3, h5, h7, hg0, hlt, hlt2, hj, hi, hx, hr, Rl.cs, hb1, hb1', hb2, hb2', onB_t, onB_f]; first | (refine hA ?_; clear hA hB A B) | (refine hB ?_; clear hA hB A B) | (refine onB_if (fun h => hA ?_) (fun h => hB ?_) <;> clear hA hB A B))
          | refine WP.q ?_ | refine WP.b ?_)
        refine WP_loop (fun m2 T s' => ∃ j : Nat, m2 + j = r.body.length ∧ ((r.body.take j).all fun l => !decide (3 < l.atom.a.length)) = true ∧ T.get 1 = .sl (fs.map Fc.cs) ∧ T.get 3 = .ptr s.nx 0 ∧ T.get 5 = .ptr (s.nx + 1) 0 ∧ T.get 7 = .int .i64 i ∧ T.get 8 = .int .i64 j ∧ s.nx + 1 < s'.nx ∧ s'.get s.nx = some (.var 25 [.sl (g.decls.map Dc.cs), .sl (g.rules.map Rl.cs)]) ∧ s'.get (s.nx + 1) = some (.var 34 [.str n.f.p, .sl (n.f.a.map V.cs), .int .i64 n.r, .sl (n.k.map Nd.cs)]))
          r.body.length ⟨0, by simp, by simp, by simp [h1], by simp [h3], by simp [h5], by simp [h7], by simp, hnx, hg0, hg1⟩ ?_
        rintro m2 T2 s2 ⟨j, hmj, hal2, t1, t3, t5, t7, t8, tnx, u0, u1⟩
        by_cases hjl : j < r.body.length
        · have hjt : ((j : Int) < (r.body.length : Int)) := by omega
          have hw2 : IntKind.i64.wrap ((j : Int) + 1) = (j : Int) + 1 := wrap64 (by omega) (by simp only [MB] at hbl; omega)
          have hl : r.body[j]? = some r.body[j] := List.getElem?_eq_getElem hjl
          generalize hy : r.body[j] = y at *
          by_cases hy3 : 3 < y.atom.a.length
          · have hy3' : (3 : Int) < (y.atom.a.length : Int) := by omega
            rw [few_bad hj hr (by
              have : (r.body.all fun l => !decide (3 < l.atom.a.length)) = false := by
                rw [List.all_eq_false]; exact ⟨y, List.mem_of_getElem? hl, by simp [hy3]⟩
              simp [fewR, this])]
            repeat' (first
              | refine WP.t ?_ | refine WP.k ?_ | refine WP.e ?_ | refine Qn ?_ | refine Qr ?_ | refine Qe ?_ | refine Bn ?_ | refine Br ?_ | refine Be ?_ | refine Bx (by decide) ?_
              | (refine RS.nl ?_; refine hk _ _ ?_; clear hk k)
              | ((first | refine RS.st fun A B hA hB => ?_ | refine RQ.st fun A B hA hB => ?_); simp [t1, t3, t5, t7, t8, u0, hlt, hlt2, hj, hi, hx, hr, Rl.cs, hjt, hjl, hl, hy, Lit.cs, hy3, hy3', onW_t, onW_f, onV_s]; first | ((first | refine hA _ _ _ ?_ ?_ | refine hA _ _ _ ?_ (by first | exact .inl rfl | exact .inr (by decide)) ?_); (focus (simp [t1, t3, t5, t7, t8, u0, hlt, hlt2, hj, hi, hx, hr, Rl.cs, hjt, hjl, hl, hy, Lit.cs, hy3, hy3'] <;> omega)); clear hA hB A B) | (refine hB ?_; clear hA hB A B) | (refine onV_if ?_ ?_; (focus (first | omega | (refine ⟨?_, ?_⟩ <;> omega))); simp only [onV_s]; (first | refine hA _ _ _ ?_ ?_ | refine hA _ _ _ ?_ (by first | exact .inl rfl | exact .inr (by decide)) ?_); (focus (simp [t1, t3, t5, t7, t8, u0, hlt, hlt2, hj, hi, hx, hr, Rl.cs, hjt, hjl, hl, hy, Lit.cs, hy3, hy3'] <;> omega)); clear hA hB A B))
              | (refine RQ.nl ?_; refine hk _ _ ?_; clear hk k)
              | refine WP.sr fun k hk => ?_ | refine WP.r fun k hk => ?_
              | refine WP.sd _ rfl fun k hk => ?_ | refine WP.d _ rfl fun k hk => ?_
              | (refine WP.cc fun A B hA hB => ?_; simp [t1, t3, t5, t7, t8, u0, hlt, hlt2, hj, hi, hx, hr, Rl.cs, hjt, hjl, hl, hy, Lit.cs, hy3, hy3', onB_t, onB_f]; first | (refine hA ?_; clear hA hB A B) | (refine hB ?_; clear hA hB A B) | (refine onB_if (fun h => hA ?_) (fun h => hB ?_) <;> clear hA hB A B))
              | refine WP.q ?_ | refine WP.b ?_)
            simp
          · have hy3' : ¬ (3 : Int) < (y.atom.a.length : Int) := by omega
            repeat' (first
              | refine WP.t ?_ | refine WP.k ?_ | refine WP.e ?_ | refine Qn ?_ | refine Qr ?_ | refine Qe ?_ | refine Bn ?_ | refine Br ?_ | refine Be ?_ | refine Bx (by decide) ?_
              | (refine RS.nl ?_; refine hk _ _ ?_; clear hk k)
              | ((first | refine RS.st fun A B hA hB => ?_ | refine RQ.st fun A B hA hB => ?_); simp [t1, t3, t5, t7, t8, u0, hlt, hlt2, hj, hi, hx, hr, Rl.cs, hjt, hjl, hl, hy, Lit.cs, hy3, hy3', hw2, onW_t, onW_f, onV_s]; first | ((first | refine hA _ _ _ ?_ ?_ | refine hA _ _ _ ?_ (by first | exact .inl rfl | exact .inr (by decide)) ?_); (focus (simp [t1, t3, t5, t7, t8, u0, hlt, hlt2, hj, hi, hx, hr, Rl.cs, hjt, hjl, hl, hy, Lit.cs, hy3, hy3', hw2] <;> omega)); clear hA hB A B) | (refine hB ?_; clear hA hB A B) | (refine onV_if ?_ ?_; (focus (first | omega | (refine ⟨?_, ?_⟩ <;> omega))); simp only [onV_s]; (first | refine hA _ _ _ ?_ ?_ | refine hA _ _ _ ?_ (by first | exact .inl rfl | exact .inr (by decide)) ?_); (focus (simp [t1, t3, t5, t7, t8, u0, hlt, hlt2, hj, hi, hx, hr, Rl.cs, hjt, hjl, hl, hy, Lit.cs, hy3, hy3', hw2] <;> omega)); clear hA hB A B))
              | (refine RQ.nl ?_; refine hk _ _ ?_; clear hk k)
              | refine WP.sr fun k hk => ?_ | refine WP.r fun k hk => ?_
              | refine WP.sd _ rfl fun k hk => ?_ | refine WP.d _ rfl fun k hk => ?_
              | (refine WP.cc fun A B hA hB => ?_; simp [t1, t3, t5, t7, t8, u0, hlt, hlt2, hj, hi, hx, hr, Rl.cs, hjt, hjl, hl, hy, Lit.cs, hy3, hy3', hw2, onB_t, onB_f]; first | (refine hA ?_; clear hA hB A B) | (refine hB ?_; clear hA hB A B) | (refine onB_if (fun h => hA ?_) (fun h => hB ?_) <;> clear hA hB A B))
              | refine WP.q ?_ | refine WP.b ?_)
            exact ⟨m2 - 1, by omega, j + 1, by omega, all_take hl hal2 (by simp [hy3]), by simp [t1], by simp [t3], by simp [t5], by simp [t7], by simp, tnx, u0, u1⟩
        · have hjt : ¬ ((j : Int) < (r.body.length : Int)) := by omega
          have htk : r.body.take j = r.body := List.take_of_length_le (by omega)
          rw [htk] at hal2
          repeat' (first
            | refine WP.t ?_ | refine WP.k ?_ | refine WP.e ?_ | refine Qn ?_ | refine Qr ?_ | refine Qe ?_ | refine Bn ?_ | refine Br ?_ | refine Be ?_ | refine Bx (by decide) ?_
            | (refine RS.nl ?_; refine hk _ _ ?_; clear hk k)
            | ((first | refine RS.st fun A B hA hB => ?_ | refine RQ.st fun A B hA hB => ?_); simp [t1, t3, t5, t7, t8, u0, hlt, hlt2, hj, hi, hx, hr, Rl.cs, hjt, hw, onW_t, onW_f, onV_s]; first | ((first | refine hA _ _ _ ?_ ?_ | refine hA _ _ _ ?_ (by first | exact .inl rfl | exact .inr (by decide)) ?_); (focus (simp [t1, t3, t5, t7, t8, u0, hlt, hlt2, hj, hi, hx, hr, Rl.cs, hjt, hw] <;> omega)); clear hA hB A B) | (refine hB ?_; clear hA hB A B) | (refine onV_if ?_ ?_; (focus (first | omega | (refine ⟨?_, ?_⟩ <;> omega))); simp only [onV_s]; (first | refine hA _ _ _ ?_ ?_ | refine hA _ _ _ ?_ (by first | exact .inl rfl | exact .inr (by decide)) ?_); (focus (simp [t1, t3, t5, t7, t8, u0, hlt, hlt2, hj, hi, hx, hr, Rl.cs, hjt, hw] <;> omega)); clear hA hB A B))
            | (refine RQ.nl ?_; refine hk _ _ ?_; clear hk k)
            | refine WP.sr fun k hk => ?_ | refine WP.r fun k hk => ?_
            | refine WP.sd _ rfl fun k hk => ?_ | refine WP.d _ rfl fun k hk => ?_
            | (refine WP.cc fun A B hA hB => ?_; simp [t1, t3, t5, t7, t8, u0, hlt, hlt2, hj, hi, hx, hr, Rl.cs, hjt, hw, onB_t, onB_f]; first | (refine hA ?_; clear hA hB A B) | (refine hB ?_; clear hA hB A B) | (refine onB_if (fun h => hA ?_) (fun h => hB ?_) <;> clear hA hB A B))
            | refine WP.q ?_ | refine WP.b ?_)
          exact ⟨m - 1, by omega, i + 1, by omega, by omega, all_take hr hall (by simp [fewR, hb1, hb2, hal2]), by simp [t1], by simp [t3], by simp [t5], by simp, tnx, u0, u1⟩
  · have hend : i = g.rules.length ∨ i = 11 := by omega
    rw [few_end hi11 hend hall]
    have hlen : ((i : Int) < (g.rules.length : Int)) ∧ ¬ ((i : Int) < 11) ∨ ¬ ((i : Int) < (g.rules.length : Int)) := by omega
    rcases hlen with ⟨hlt, hlt2⟩ | hlt
    · have hj : ¬ i < 11 := by omega
      have h10 : ¬ g.rules.length ≤ 10 := by omega
      have h10' : ¬ ((g.rules.length : Int) ≤ 10) := by omega
      repeat' (first
        | refine WP.t ?_ | refine WP.k ?_ | refine WP.e ?_ | refine Qn ?_ | refine Qr ?_ | refine Qe ?_ | refine Bn ?_ | refine Br ?_ | refine Be ?_ | refine Bx (by decide) ?_
        | (refine RS.nl ?_; refine hk _ _ ?_; clear hk k)
        | ((first | refine RS.st fun A B hA hB => ?_ | refine RQ.st fun A B hA hB => ?_); simp [h1, h3, h5, h7, hg0, hlt, hlt2, hj, h10, h10', onW_t, onW_f, onV_s]; first | ((first | refine hA _ _ _ ?_ ?_ | refine hA _ _ _ ?_ (by first | exact .inl rfl | exact .inr (by decide)) ?_); (focus (simp [h1, h3, h5, h7, hg0, hlt, hlt2, hj, h10, h10'] <;> omega)); clear hA hB A B) | (refine hB ?_; clear hA hB A B) | (refine onV_if ?_ ?_; (focus (first | omega | (refine ⟨?_, ?_⟩ <;> omega))); simp only [onV_s]; (first | refine hA _ _ _ ?_ ?_ | refine hA _ _ _ ?_ (by first | exact .inl rfl | exact .inr (by decide)) ?_); (focus (simp [h1, h3, h5, h7, hg0, hlt, hlt2, hj, h10, h10'] <;> omega)); clear hA hB A B))
        | (refine RQ.nl ?_; refine hk _ _ ?_; clear hk k)
        | refine WP.sr fun k hk => ?_ | refine WP.r fun k hk => ?_
        | refine WP.sd _ rfl fun k hk => ?_ | refine WP.d _ rfl fun k hk => ?_
        | (refine WP.cc fun A B hA hB => ?_; simp [h1, h3, h5, h7, hg0, hlt, hlt2, hj, h10, h10', onB_t, onB_f]; first | (refine hA ?_; clear hA hB A B) | (refine hB ?_; clear hA hB A B) | (refine onB_if (fun h => hA ?_) (fun h => hB ?_) <;> clear hA hB A B))
        | refine WP.q ?_ | refine WP.b ?_)
      simp [h10]
    · by_cases h10 : g.rules.length ≤ 10
      · have h10' : ((g.rules.length : Int) ≤ 10) := by omega
        by_cases h60 : fs.length ≤ 60
        · have h60' : ((fs.length : Int) ≤ 60) := by omega
          have hd : decide ((sizeE n : Int) ≤ 60) = decide (sizeE n ≤ 60) := by rw [decide_eq_decide]; omega
          repeat' (first
            | refine WP.t ?_ | refine WP.k ?_ | refine WP.e ?_ | refine Qn ?_ | refine Qr ?_ | refine Qe ?_ | refine Bn ?_ | refine Br ?_ | refine Be ?_ | refine Bx (by decide) ?_
            | (refine RS.nl ?_; refine hk _ _ ?_; clear hk k)
            | ((first | refine RS.st fun A B hA hB => ?_ | refine RQ.st fun A B hA hB => ?_); simp [h1, h3, h5, h7, hg0, hg1, hlt, h10, h10', h60, h60', hsz, onW_t, onW_f, onV_s]; first | ((first | refine hA _ _ _ ?_ ?_ | refine hA _ _ _ ?_ (by first | exact .inl rfl | exact .inr (by decide)) ?_); (focus (simp [h1, h3, h5, h7, hg0, hg1, hlt, h10, h10', h60, h60', hsz] <;> omega)); clear hA hB A B) | (refine hB ?_; clear hA hB A B) | (refine onV_if ?_ ?_; (focus (first | omega | (refine ⟨?_, ?_⟩ <;> omega))); simp only [onV_s]; (first | refine hA _ _ _ ?_ ?_ | refine hA _ _ _ ?_ (by first | exact .inl rfl | exact .inr (by decide)) ?_); (focus (simp [h1, h3, h5, h7, hg0, hg1, hlt, h10, h10', h60, h60', hsz] <;> omega)); clear hA hB A B))
            | (refine RQ.nl ?_; refine hk _ _ ?_; clear hk k)
            | refine WP.sr fun k hk => ?_ | refine WP.r fun k hk => ?_
            | refine WP.sd _ rfl fun k hk => ?_ | refine WP.d _ rfl fun k hk => ?_
            | (refine WP.cc fun A B hA hB => ?_; simp [h1, h3, h5, h7, hg0, hg1, hlt, h10, h10', h60, h60', hsz, onB_t, onB_f]; first | (refine hA ?_; clear hA hB A B) | (refine hB ?_; clear hA hB A B) | (refine onB_if (fun h => hA ?_) (fun h => hB ?_) <;> clear hA hB A B))
            | refine WP.q ?_ | refine WP.b ?_)
          simp [h10, h60, hd]
        · have h60' : ¬ ((fs.length : Int) ≤ 60) := by omega
          repeat' (first
            | refine WP.t ?_ | refine WP.k ?_ | refine WP.e ?_ | refine Qn ?_ | refine Qr ?_ | refine Qe ?_ | refine Bn ?_ | refine Br ?_ | refine Be ?_ | refine Bx (by decide) ?_
            | (refine RS.nl ?_; refine hk _ _ ?_; clear hk k)
            | ((first | refine RS.st fun A B hA hB => ?_ | refine RQ.st fun A B hA hB => ?_); simp [h1, h3, h5, h7, hg0, hlt, h10, h10', h60, h60', onW_t, onW_f, onV_s]; first | ((first | refine hA _ _ _ ?_ ?_ | refine hA _ _ _ ?_ (by first | exact .inl rfl | exact .inr (by decide)) ?_); (focus (simp [h1, h3, h5, h7, hg0, hlt, h10, h10', h60, h60'] <;> omega)); clear hA hB A B) | (refine hB ?_; clear hA hB A B) | (refine onV_if ?_ ?_; (focus (first | omega | (refine ⟨?_, ?_⟩ <;> omega))); simp only [onV_s]; (first | refine hA _ _ _ ?_ ?_ | refine hA _ _ _ ?_ (by first | exact .inl rfl | exact .inr (by decide)) ?_); (focus (simp [h1, h3, h5, h7, hg0, hlt, h10, h10', h60, h60'] <;> omega)); clear hA hB A B))
            | (refine RQ.nl ?_; refine hk _ _ ?_; clear hk k)
            | refine WP.sr fun k hk => ?_ | refine WP.r fun k hk => ?_
            | refine WP.sd _ rfl fun k hk => ?_ | refine WP.d _ rfl fun k hk => ?_
            | (refine WP.cc fun A B hA hB => ?_; simp [h1, h3, h5, h7, hg0, hlt, h10, h10', h60, h60', onB_t, onB_f]; first | (refine hA ?_; clear hA hB A B) | (refine hB ?_; clear hA hB A B) | (refine onB_if (fun h => hA ?_) (fun h => hB ?_) <;> clear hA hB A B))
            | refine WP.q ?_ | refine WP.b ?_)
          simp [h60]
      · have h10' : ¬ ((g.rules.length : Int) ≤ 10) := by omega
        repeat' (first
          | refine WP.t ?_ | refine WP.k ?_ | refine WP.e ?_ | refine Qn ?_ | refine Qr ?_ | refine Qe ?_ | refine Bn ?_ | refine Br ?_ | refine Be ?_ | refine Bx (by decide) ?_
          | (refine RS.nl ?_; refine hk _ _ ?_; clear hk k)
          | ((first | refine RS.st fun A B hA hB => ?_ | refine RQ.st fun A B hA hB => ?_); simp [h1, h3, h5, h7, hg0, hlt, h10, h10', onW_t, onW_f, onV_s]; first | ((first | refine hA _ _ _ ?_ ?_ | refine hA _ _ _ ?_ (by first | exact .inl rfl | exact .inr (by decide)) ?_); (focus (simp [h1, h3, h5, h7, hg0, hlt, h10, h10'] <;> omega)); clear hA hB A B) | (refine hB ?_; clear hA hB A B) | (refine onV_if ?_ ?_; (focus (first | omega | (refine ⟨?_, ?_⟩ <;> omega))); simp only [onV_s]; (first | refine hA _ _ _ ?_ ?_ | refine hA _ _ _ ?_ (by first | exact .inl rfl | exact .inr (by decide)) ?_); (focus (simp [h1, h3, h5, h7, hg0, hlt, h10, h10'] <;> omega)); clear hA hB A B))
          | (refine RQ.nl ?_; refine hk _ _ ?_; clear hk k)
          | refine WP.sr fun k hk => ?_ | refine WP.r fun k hk => ?_
          | refine WP.sd _ rfl fun k hk => ?_ | refine WP.d _ rfl fun k hk => ?_
          | (refine WP.cc fun A B hA hB => ?_; simp [h1, h3, h5, h7, hg0, hlt, h10, h10', onB_t, onB_f]; first | (refine hA ?_; clear hA hB A B) | (refine hB ?_; clear hA hB A B) | (refine onB_if (fun h => hA ?_) (fun h => hB ?_) <;> clear hA hB A B))
          | refine WP.q ?_ | refine WP.b ?_)
        simp [h10]
end
end Go.Am
