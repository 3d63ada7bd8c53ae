/- Part of the proof: abstract values over the given model of Go (R1, R2, R3, R4). Conditions: none of its own; see the statement in the seat's Rows text. -/
import Derived.Test.YtcahihhgikmloaaDoorAmSg
import Derived.Test.YtcahihhgikmloaaDoorAmPb
set_option linter.unusedSimpArgs false
set_option linter.unusedVariables false
set_option linter.unusedSectionVars false
namespace Go.Am
open Go.Proofs
/-! ### nil slices as empty ones -/
def nrm0 : AV → AV
  | .nsl => .sl []
  | x => x
def nrm : AV → AV
  | .agg cs => .agg (cs.map nrm0)
  | x => nrm0 x
theorem vr_nrm0 {μ : Mu} {w : World} {s : St} {x : AV} {v : Value} (h : VR μ s w x v) : VR μ s w (nrm0 x) v := by
  unfold nrm0
  split
  · cases h; exact .slnil _
  · exact h
theorem vr_nrm {μ : Mu} {w : World} {s : St} {x : AV} {v : Value} (h : VR μ s w x v) : VR μ s w (nrm x) v := by
  unfold nrm
  split
  · cases h with
    | agg cs vs hl h =>
      refine .agg _ _ (by simpa using hl) fun i x v hx hv => ?_
      rw [List.getElem?_map] at hx
      obtain ⟨y, hy, rfl⟩ := Option.map_eq_some_iff.1 hx
      exact vr_nrm0 (h i y v hy hv)
  · exact vr_nrm0 h
theorem FT.nrm {E : Env} {W : Nat → Prop} {f : FuncId} {xs : List AV} {s s' : St} {r : AV} (h : FT E W f (xs.map nrm) s r s') : FT E W f xs s r s' :=
  h.args fun μ w vs hv => by
    obtain ⟨hn, hg⟩ := hv
    refine ⟨by simpa using hn, fun i a v ha hv => ?_⟩
    rw [List.getElem?_map] at ha
    obtain ⟨y, hy, rfl⟩ := Option.map_eq_some_iff.1 ha
    exact vr_nrm (hg i y v hy hv)
def Fns.addN (F : Fns) (f : FuncId) (p : List AV → Option AV) : Fns := F.addP f fun xs => p (xs.map nrm)
theorem FOk.addN {E : Env} {F : Fns} {f : FuncId} {p : List AV → Option AV} (h : FOk E F) (hp : ∀ xs s r, p xs = some r → FT E NoW f xs s r s) : FOk E (F.addN f p) :=
  h.addP fun xs s r he => FT.nrm (hp _ s r he)
/-! ### the reference's relation -/
def refC (n : Int) (N D F : Rows0) : List AV := [.int .i64 n, .sl (encD N), .sl (encD D), .sl (encD F)]
def inQ (D : Rows0) (t : List V) : Bool := D.any fun r => decide (cmpT r t = 0)
def okRs (D : Rows0) : Bool := D.all okR && decide (D.length < 268435456)
theorem okRs_iff {D : Rows0} : okRs D = true ↔ (∀ t ∈ D, okR t = true) ∧ D.length < 268435456 := by simp [okRs]
section
variable {K : Nat} {gw : World} {s : St}
attribute [local simp] awanted xop zOf zrow aop ev T0 Slots.put Slots.set Slots.get awr WOk AV.may ofConst abinop aint isConst St.get_push St.get_put St.live AV.fit AV.cells AV.one fieldOf afieldAddr aload ofCells astore splice May eqres env_ti FinP FinZ FinW ares aresL ares1 Fns.addP Fns.add Fns.a0 Fns.a1 Fns.a2 Fns.a3 Fns.a4 abuiltin alenOk alen aindex elemOfT elemId abuildSlice afill chunks ard aappend isSS AV.isStr aminmax placesOf abuild afield aidx isStrD isStrDesc astrop aslice asliceOk abound arange anext aextract aunop aeq AV.ck avseq aveq aconv aconvert onB_t onB_f List.range_succ ti0 ti1 ti2 ti3 ti4 ti5 ti6 ti7 ti8 ti9 ti10 ti11 ti12 ti13 ti14 ti15 ti16 ti17 ti18 ti19 ti20 ti21 ti22 ti23 ti24 ti25 ti26 ti27 ti28 ti29 ti30 ti31 ti32 ti33 ti34 ti35 ti36 ti37 ti38 ti39 ti40 ti41 ti42 ti43 ti44 ti45 ti46 ti47 ti48 ti49 ti50 ti51 ti52 ti53 ti54 ti55 ti56 ti57 ti58 ti59 ti60 ti61 ti62 ti63 ti64 ti65 ti66 ti67 ti68 ti69 ti70 ti71 ti72 ti73 ti74 ti75 ti76 ti77 ti78 ti79 ti80 ti81 ti82 ti83 ti84 ti85 ti86 ti87 ti88 ti89 ti90 ti91 ti92 ti93 ti94 ti95 ti96 ti97 ti98 ti99 ti100 ti101 ti102 ti103 ti104 ti105 ti106 ti107 ti108 ti109 ti110 ti111 ti112 ti113 ti114 ti115 ti116 ti117 ti118 ti119 ti120 ti121 ti122 ti123 ti124 ti125 ti126 ti127 ti128 ti129 ti130 ti131 ti132 ti133 ti134 ti135 ti136 ti137 ti138 ti139 ti140 ti141 ti142 ti143 ti144 ti145 ti146 ti147
theorem ft_Bare (v : V) : FT (env K gw) NoW 53 [.agg v.cs] s (.agg (bareV v).cs) s := by
  refine FT.pure (fn := Tryd.f53) F0_ok mixed Tryd.func53 (by kernel_rfl) (by rfl) rfl rfl (by simp) rfl fun μ w => ?_
  obtain ⟨b, x, n⟩ := v
  cases b
  all_goals
    repeat' (first
      | refine WP.t ?_ | refine WP.k ?_ | refine WP.e ?_ | refine Qn ?_ | refine Qr ?_ | refine Qe ?_ | refine Bn ?_ | refine Br ?_ | refine Be ?_ | refine Bx (by decide) ?_
      | (refine RS.nl ?_; refine hk _ _ ?_; clear hk k)
      | ((first | refine RS.st fun A B hA hB => ?_ | refine RQ.st fun A B hA hB => ?_); simp [V.cs, onW_t, onW_f, onV_s]; first | ((first | refine hA _ _ _ ?_ ?_ | refine hA _ _ _ ?_ (by first | exact .inl rfl | exact .inr (by decide)) ?_); (focus (simp [V.cs] <;> omega)); clear hA hB A B) | (refine hB ?_; clear hA hB A B) | (refine onV_if ?_ ?_; (focus (first | omega | (refine ⟨?_, ?_⟩ <;> omega))); simp only [onV_s]; (first | refine hA _ _ _ ?_ ?_ | refine hA _ _ _ ?_ (by first | exact .inl rfl | exact .inr (by decide)) ?_); (focus (simp [V.cs] <;> omega)); clear hA hB A B))
      | (refine RQ.nl ?_; refine hk _ _ ?_; clear hk k)
      | refine WP.sr fun k hk => ?_ | refine WP.r fun k hk => ?_
      | refine WP.sd _ rfl fun k hk => ?_ | refine WP.d _ rfl fun k hk => ?_
      | (refine WP.cc fun A B hA hB => ?_; simp [V.cs, onB_t, onB_f]; first | (refine hA ?_; clear hA hB A B) | (refine hB ?_; clear hA hB A B) | (refine onB_if (fun h => hA ?_) (fun h => hB ?_) <;> clear hA hB A B))
      | refine WP.q ?_ | refine WP.b ?_)
    simp [bareV, V.cs]
noncomputable def Y1 : Fns := V2.addP 53 pBare
theorem Y1_ok (hK : 0 < K) (hT : Tens gw) : FOk (env K gw) Y1 := by
  refine (V2_ok hK hT).addP ?_
  intro xs s r h
  unfold pBare at h
  split at h
  · obtain ⟨v, hv, rfl⟩ := Option.map_eq_some_iff.1 h
    rw [decV_eq hv]
    exact ft_Bare v
  · cases h
theorem ft_rOf (hK : 0 < K) (hT : Tens gw) (l : List V) (hl : l.length < 1073741824) : FT (env K gw) NoW 40 [.sl (l.map V.cs)] s (.sl ((l.map bareV).map V.cs)) s := by
  refine FT.data (fn := Tryd.f40) (Y1_ok hK hT) mixed Tryd.func40 (by kernel_rfl) (by rfl) rfl rfl (by simp) rfl fun μ w => ?_
  repeat' (first
    | refine WP.t ?_ | refine WP.k ?_ | refine WP.e ?_ | refine Qn ?_ | refine Qr ?_ | refine Qe ?_ | refine Bn ?_ | refine Br ?_ | refine Be ?_ | refine Bx (by decide) ?_
    | (refine RS.nl ?_; refine hk _ _ ?_; clear hk k)
    | ((first | refine RS.st fun A B hA hB => ?_ | refine RQ.st fun A B hA hB => ?_); simp [abuiltin, onW_t, onW_f, onV_s]; first | ((first | refine hA _ _ _ ?_ ?_ | refine hA _ _ _ ?_ (by first | exact .inl rfl | exact .inr (by decide)) ?_); (focus (simp [abuiltin] <;> omega)); clear hA hB A B) | (refine hB ?_; clear hA hB A B) | (refine onV_if ?_ ?_; (focus (first | omega | (refine ⟨?_, ?_⟩ <;> omega))); simp only [onV_s]; (first | refine hA _ _ _ ?_ ?_ | refine hA _ _ _ ?_ (by first | exact .inl rfl | exact .inr (by decide)) ?_); (focus (simp [abuiltin] <;> omega)); clear hA hB A B))
    | (refine RQ.nl ?_; refine hk _ _ ?_; clear hk k)
    | refine WP.sr fun k hk => ?_ | refine WP.r fun k hk => ?_
    | refine WP.sd _ rfl fun k hk => ?_ | refine WP.d _ rfl fun k hk => ?_
    | (refine WP.cc fun A B hA hB => ?_; simp [abuiltin, onB_t, onB_f]; first | (refine hA ?_; clear hA hB A B) | (refine hB ?_; clear hA hB A B) | (refine onB_if (fun h => hA ?_) (fun h => hB ?_) <;> clear hA hB A B))
    | refine WP.q ?_ | refine WP.b ?_)
  refine WP_loop (fun n T s' => ∃ i : Nat, n + i = l.length ∧ T.get 0 = .sl (l.map V.cs) ∧ T.get 4 = .int .i64 i ∧ s.nx ≤ s'.nx ∧
    ((i = 0 ∧ T.get 3 = .nsl) ∨ (0 < i ∧ ∃ rd, s.nx ≤ rd ∧ rd < s'.nx ∧ T.get 3 = .ls rd 0 i ∧ s'.get rd = some (.row 3 (true, 25) (((l.take i).map bareV).map V.cs))))) l.length ⟨0, by simp, by simp, by simp, by simp, .inl ⟨rfl, by simp⟩⟩ ?_
  rintro n T s' ⟨i, hni, h6, h8, hnx, hB⟩
  by_cases hi : i < l.length
  · have hw : IntKind.i64.wrap ((i : Int) + 1) = (i : Int) + 1 := wrap64 (by omega) (by omega)
    have ha : l[i]? = some l[i] := List.getElem?_eq_getElem hi
    have hlt : ((i : Int) < (l.length : Int)) := by omega
    have htk : l.take (i + 1) = l.take i ++ [l[i]] := List.take_succ_eq_append_getElem hi
    generalize hv : l[i] = v at *
    rcases hB with ⟨rfl, h3⟩ | ⟨hi0, rd, hrd, hrd2, h3, hr⟩
    · skip
      repeat' (first
        | refine WP.t ?_ | refine WP.k ?_ | refine WP.e ?_ | refine Qn ?_ | refine Qr ?_ | refine Qe ?_ | refine Bn ?_ | refine Br ?_ | refine Be ?_ | refine Bx (by decide) ?_
        | (refine RS.nl ?_; refine hk _ _ ?_; clear hk k)
        | ((first | refine RS.st fun A B hA hB => ?_ | refine RQ.st fun A B hA hB => ?_); simp [Y1, pBare, decV, h3, h6, h8, hlt, hi, ha, hw, hnx, V.cs, onW_t, onW_f, onV_s]; first | ((first | refine hA _ _ _ ?_ ?_ | refine hA _ _ _ ?_ (by first | exact .inl rfl | exact .inr (by decide)) ?_); (focus (simp [Y1, pBare, decV, h3, h6, h8, hlt, hi, ha, hw, hnx, V.cs] <;> omega)); clear hA hB A B) | (refine hB ?_; clear hA hB A B) | (refine onV_if ?_ ?_; (focus (first | omega | (refine ⟨?_, ?_⟩ <;> omega))); simp only [onV_s]; (first | refine hA _ _ _ ?_ ?_ | refine hA _ _ _ ?_ (by first | exact .inl rfl | exact .inr (by decide)) ?_); (focus (simp [Y1, pBare, decV, h3, h6, h8, hlt, hi, ha, hw, hnx, V.cs] <;> omega)); clear hA hB A B))
        | (refine RQ.nl ?_; refine hk _ _ ?_; clear hk k)
        | refine WP.sr fun k hk => ?_ | refine WP.r fun k hk => ?_
        | refine WP.sd _ rfl fun k hk => ?_ | refine WP.d _ rfl fun k hk => ?_
        | (refine WP.cc fun A B hA hB => ?_; simp [Y1, pBare, decV, h3, h6, h8, hlt, hi, ha, hw, hnx, V.cs, onB_t, onB_f]; first | (refine hA ?_; clear hA hB A B) | (refine hB ?_; clear hA hB A B) | (refine onB_if (fun h => hA ?_) (fun h => hB ?_) <;> clear hA hB A B))
        | refine WP.q ?_ | refine WP.b ?_)
      refine ⟨n - 1, by omega, 1, by omega, by simp [h6], by simp [wrap64 (x := 1) (by omega) (by omega)], by simp; omega, .inr ⟨by omega, s'.nx, by omega, by simp, by simp, ?_⟩⟩
      rw [htk, ← hv]
      simp [V.cs]
    · have n1 : ¬ rd = s'.nx := by omega
      have hmin : min i l.length = i := by omega
      have hby : (i + 1) * 32 ≤ 140737488355328 := by omega
      repeat' (first
        | refine WP.t ?_ | refine WP.k ?_ | refine WP.e ?_ | refine Qn ?_ | refine Qr ?_ | refine Qe ?_ | refine Bn ?_ | refine Br ?_ | refine Be ?_ | refine Bx (by decide) ?_
        | (refine RS.nl ?_; refine hk _ _ ?_; clear hk k)
        | ((first | refine RS.st fun A B hA hB => ?_ | refine RQ.st fun A B hA hB => ?_); simp [Y1, pBare, decV, h3, h6, h8, hlt, hi, ha, hw, hnx, V.cs, hr, n1, hmin, hby, hrd, onW_t, onW_f, onV_s]; first | ((first | refine hA _ _ _ ?_ ?_ | refine hA _ _ _ ?_ (by first | exact .inl rfl | exact .inr (by decide)) ?_); (focus (simp [Y1, pBare, decV, h3, h6, h8, hlt, hi, ha, hw, hnx, V.cs, hr, n1, hmin, hby, hrd] <;> omega)); clear hA hB A B) | (refine hB ?_; clear hA hB A B) | (refine onV_if ?_ ?_; (focus (first | omega | (refine ⟨?_, ?_⟩ <;> omega))); simp only [onV_s]; (first | refine hA _ _ _ ?_ ?_ | refine hA _ _ _ ?_ (by first | exact .inl rfl | exact .inr (by decide)) ?_); (focus (simp [Y1, pBare, decV, h3, h6, h8, hlt, hi, ha, hw, hnx, V.cs, hr, n1, hmin, hby, hrd] <;> omega)); clear hA hB A B))
        | (refine RQ.nl ?_; refine hk _ _ ?_; clear hk k)
        | refine WP.sr fun k hk => ?_ | refine WP.r fun k hk => ?_
        | refine WP.sd _ rfl fun k hk => ?_ | refine WP.d _ rfl fun k hk => ?_
        | (refine WP.cc fun A B hA hB => ?_; simp [Y1, pBare, decV, h3, h6, h8, hlt, hi, ha, hw, hnx, V.cs, hr, n1, hmin, hby, hrd, onB_t, onB_f]; first | (refine hA ?_; clear hA hB A B) | (refine hB ?_; clear hA hB A B) | (refine onB_if (fun h => hA ?_) (fun h => hB ?_) <;> clear hA hB A B))
        | refine WP.q ?_ | refine WP.b ?_)
      refine ⟨n - 1, by omega, i + 1, by omega, by simp [h6], by simp, by simp; omega, .inr ⟨by omega, s'.nx, by omega, by simp, by simp, ?_⟩⟩
      have e2 : ∀ s2 : St, s2.nx = s'.nx → ∀ o, (s2.push o).get s'.nx = some o := fun s2 h o => by rw [← h]; exact St.get_push_same _ _
      rw [e2 _ (by simp), htk, ← hv]
      simp only [List.map_append, List.map_cons, List.map_nil]
      have e3 : List.map V.cs (List.map bareV (List.take i l)) = List.take i (List.map (V.cs ∘ bareV) l) := by simp
      rw [e3]
      rfl
  · have hlt : ¬ ((i : Int) < (l.length : Int)) := by omega
    have he : i = l.length := by omega
    repeat' (first
      | refine WP.t ?_ | refine WP.k ?_ | refine WP.e ?_ | refine Qn ?_ | refine Qr ?_ | refine Qe ?_ | refine Bn ?_ | refine Br ?_ | refine Be ?_ | refine Bx (by decide) ?_
      | (refine RS.nl ?_; refine hk _ _ ?_; clear hk k)
      | ((first | refine RS.st fun A B hA hB => ?_ | refine RQ.st fun A B hA hB => ?_); simp [h6, h8, hlt, onW_t, onW_f, onV_s]; first | ((first | refine hA _ _ _ ?_ ?_ | refine hA _ _ _ ?_ (by first | exact .inl rfl | exact .inr (by decide)) ?_); (focus (simp [h6, h8, hlt] <;> omega)); clear hA hB A B) | (refine hB ?_; clear hA hB A B) | (refine onV_if ?_ ?_; (focus (first | omega | (refine ⟨?_, ?_⟩ <;> omega))); simp only [onV_s]; (first | refine hA _ _ _ ?_ ?_ | refine hA _ _ _ ?_ (by first | exact .inl rfl | exact .inr (by decide)) ?_); (focus (simp [h6, h8, hlt] <;> omega)); clear hA hB A B))
      | (refine RQ.nl ?_; refine hk _ _ ?_; clear hk k)
      | refine WP.sr fun k hk => ?_ | refine WP.r fun k hk => ?_
      | refine WP.sd _ rfl fun k hk => ?_ | refine WP.d _ rfl fun k hk => ?_
      | (refine WP.cc fun A B hA hB => ?_; simp [h6, h8, hlt, onB_t, onB_f]; first | (refine hA ?_; clear hA hB A B) | (refine hB ?_; clear hA hB A B) | (refine onB_if (fun h => hA ?_) (fun h => hB ?_) <;> clear hA hB A B))
      | refine WP.q ?_ | refine WP.b ?_)
    rcases hB with ⟨h0, h3⟩ | ⟨hi0, rd, hrd, hrd2, h3, hr⟩
    · have : l = [] := List.eq_nil_of_length_eq_zero (by omega)
      subst this
      exact ⟨.inr rfl, .nsl, by simp [h3], .nil⟩
    · have ht : l.take i = l := by rw [he, List.take_length]
      rw [ht] at hr
      refine ⟨.inr rfl, .ls rd 0 i, by simp [h3], ?_⟩
      have hlen : i = (List.map V.cs (List.map bareV l)).length := by simp [he]
      rw [hlen]
      refine .row rd 3 _ _ _ hr hrd rfl (fun e he => ?_) (fun i j y hy => ⟨y, hy⟩) (fun i j x y hx hy => ?_)
      · obtain ⟨v, _, rfl⟩ := List.mem_map.1 he; rfl
      · rw [hx] at hy
        obtain rfl := Option.some.inj hy
        refine .same x ?_
        have : Below s.nx (.sl (List.map V.cs (List.map bareV l))) := by simp [V.cs]
        cases this with
        | sl _ h => exact h i j x hx
noncomputable def Y2 : Fns := Y1.addP 40 pOf
theorem Y2_ok (hK : 0 < K) (hT : Tens gw) : FOk (env K gw) Y2 := by
  refine (Y1_ok hK hT).addP ?_
  intro xs s r h
  unfold pOf at h
  split at h
  · split at h
    · rename_i l hl
      split at h
      · rename_i hc
        cases h
        rw [decL_eq hl]
        exact ft_rOf hK hT l hc
      · cases h
    · cases h
  · cases h
theorem ft_in (hK : 0 < K) (hT : Tens gw) (D : Rows0) (t : List V) (hD : okRs D = true) (ht : okR t = true) : FT (env K gw) NoW 41 [.sl (encD D), .sl (t.map V.cs)] s (.bool (inQ D t)) s := by
  refine FT.pure (fn := Tryd.f41) (V2_ok hK hT) mixed Tryd.func41 (by kernel_rfl) (by rfl) rfl rfl (by simp) rfl fun μ w => ?_
  obtain ⟨hok, hl⟩ := okRs_iff.1 hD
  have hel : (encD D).length = D.length := by simp [encD]
  repeat' (first
    | refine WP.t ?_ | refine WP.k ?_ | refine WP.e ?_ | refine Qn ?_ | refine Qr ?_ | refine Qe ?_ | refine Bn ?_ | refine Br ?_ | refine Be ?_ | refine Bx (by decide) ?_
    | (refine RS.nl ?_; refine hk _ _ ?_; clear hk k)
    | ((first | refine RS.st fun A B hA hB => ?_ | refine RQ.st fun A B hA hB => ?_); simp [onW_t, onW_t, onW_f, onV_s]; first | ((first | refine hA _ _ _ ?_ ?_ | refine hA _ _ _ ?_ (by first | exact .inl rfl | exact .inr (by decide)) ?_); (focus (simp [onW_t] <;> omega)); clear hA hB A B) | (refine hB ?_; clear hA hB A B) | (refine onV_if ?_ ?_; (focus (first | omega | (refine ⟨?_, ?_⟩ <;> omega))); simp only [onV_s]; (first | refine hA _ _ _ ?_ ?_ | refine hA _ _ _ ?_ (by first | exact .inl rfl | exact .inr (by decide)) ?_); (focus (simp [onW_t] <;> omega)); clear hA hB A B))
    | (refine RQ.nl ?_; refine hk _ _ ?_; clear hk k)
    | refine WP.sr fun k hk => ?_ | refine WP.r fun k hk => ?_
    | refine WP.sd _ rfl fun k hk => ?_ | refine WP.d _ rfl fun k hk => ?_
    | (refine WP.cc fun A B hA hB => ?_; simp [onW_t, onB_t, onB_f]; first | (refine hA ?_; clear hA hB A B) | (refine hB ?_; clear hA hB A B) | (refine onB_if (fun h => hA ?_) (fun h => hB ?_) <;> clear hA hB A B))
    | refine WP.q ?_ | refine WP.b ?_)
  refine WP_loop (fun n T s' => ∃ i : Nat, n + i = D.length ∧ s' = s ∧ T.get 0 = .sl (encD D) ∧ T.get 1 = .sl (t.map V.cs) ∧ T.get 5 = .int .i64 i ∧ inQ (D.take i) t = false) D.length ⟨0, by simp, rfl, by simp, by simp, by simp, by simp [inQ]⟩ ?_
  rintro n T s' ⟨i, hni, rfl, g0, g1, g5, hin⟩
  by_cases hi : i < D.length
  · have hw : IntKind.i64.wrap ((i : Int) + 1) = (i : Int) + 1 := wrap64 (by omega) (by omega)
    have hlt : ((i : Int) < (D.length : Int)) := by omega
    have htk : D.take (i + 1) = D.take i ++ [D[i]] := List.take_succ_eq_append_getElem hi
    have hmem : D[i] ∈ D := List.getElem_mem hi
    have ha3 : ∀ h : i < (encD D).length, (encD D)[i]'h = [.sl (D[i].map V.cs)] := fun h => by simp [encD, Rw]
    have ho := hok _ hmem
    generalize hv : D[i] = r at *
    have hcm : ∀ s2 : St, V2 16 [.sl (r.map V.cs), .sl (t.map V.cs)] s2 = some (.int .i64 (cmpT r t), s2, []) := fun s2 => by
      simp only [V2, V1, V0, Fns.addP]
      simp [pCmpQ, ho, ht]
    by_cases hc : cmpT r t = 0
    · have hcb : (cmpT r t == 0) = true := by simp [hc]
      have hyes : inQ D t = true := List.any_eq_true.2 ⟨r, hmem, by simp [hc]⟩
      repeat' (first
        | refine WP.t ?_ | refine WP.k ?_ | refine WP.e ?_ | refine Qn ?_ | refine Qr ?_ | refine Qe ?_ | refine Bn ?_ | refine Br ?_ | refine Be ?_ | refine Bx (by decide) ?_
        | (refine RS.nl ?_; refine hk _ _ ?_; clear hk k)
        | ((first | refine RS.st fun A B hA hB => ?_ | refine RQ.st fun A B hA hB => ?_); simp [g0, g1, g5, hel, hlt, hi, hw, ha3, hcm, hcb, onW_t, onW_f, onV_s]; first | ((first | refine hA _ _ _ ?_ ?_ | refine hA _ _ _ ?_ (by first | exact .inl rfl | exact .inr (by decide)) ?_); (focus (simp [g0, g1, g5, hel, hlt, hi, hw, ha3, hcm, hcb] <;> omega)); clear hA hB A B) | (refine hB ?_; clear hA hB A B) | (refine onV_if ?_ ?_; (focus (first | omega | (refine ⟨?_, ?_⟩ <;> omega))); simp only [onV_s]; (first | refine hA _ _ _ ?_ ?_ | refine hA _ _ _ ?_ (by first | exact .inl rfl | exact .inr (by decide)) ?_); (focus (simp [g0, g1, g5, hel, hlt, hi, hw, ha3, hcm, hcb] <;> omega)); clear hA hB A B))
        | (refine RQ.nl ?_; refine hk _ _ ?_; clear hk k)
        | refine WP.sr fun k hk => ?_ | refine WP.r fun k hk => ?_
        | refine WP.sd _ rfl fun k hk => ?_ | refine WP.d _ rfl fun k hk => ?_
        | (refine WP.cc fun A B hA hB => ?_; simp [g0, g1, g5, hel, hlt, hi, hw, ha3, hcm, hcb, onB_t, onB_f]; first | (refine hA ?_; clear hA hB A B) | (refine hB ?_; clear hA hB A B) | (refine onB_if (fun h => hA ?_) (fun h => hB ?_) <;> clear hA hB A B))
        | refine WP.q ?_ | refine WP.b ?_)
      simp [hyes]
    · have hcb : (cmpT r t == 0) = false := beq_eq_false_iff_ne.2 hc
      repeat' (first
        | refine WP.t ?_ | refine WP.k ?_ | refine WP.e ?_ | refine Qn ?_ | refine Qr ?_ | refine Qe ?_ | refine Bn ?_ | refine Br ?_ | refine Be ?_ | refine Bx (by decide) ?_
        | (refine RS.nl ?_; refine hk _ _ ?_; clear hk k)
        | ((first | refine RS.st fun A B hA hB => ?_ | refine RQ.st fun A B hA hB => ?_); simp [g0, g1, g5, hel, hlt, hi, hw, ha3, hcm, hcb, onW_t, onW_f, onV_s]; first | ((first | refine hA _ _ _ ?_ ?_ | refine hA _ _ _ ?_ (by first | exact .inl rfl | exact .inr (by decide)) ?_); (focus (simp [g0, g1, g5, hel, hlt, hi, hw, ha3, hcm, hcb] <;> omega)); clear hA hB A B) | (refine hB ?_; clear hA hB A B) | (refine onV_if ?_ ?_; (focus (first | omega | (refine ⟨?_, ?_⟩ <;> omega))); simp only [onV_s]; (first | refine hA _ _ _ ?_ ?_ | refine hA _ _ _ ?_ (by first | exact .inl rfl | exact .inr (by decide)) ?_); (focus (simp [g0, g1, g5, hel, hlt, hi, hw, ha3, hcm, hcb] <;> omega)); clear hA hB A B))
        | (refine RQ.nl ?_; refine hk _ _ ?_; clear hk k)
        | refine WP.sr fun k hk => ?_ | refine WP.r fun k hk => ?_
        | refine WP.sd _ rfl fun k hk => ?_ | refine WP.d _ rfl fun k hk => ?_
        | (refine WP.cc fun A B hA hB => ?_; simp [g0, g1, g5, hel, hlt, hi, hw, ha3, hcm, hcb, onB_t, onB_f]; first | (refine hA ?_; clear hA hB A B) | (refine hB ?_; clear hA hB A B) | (refine onB_if (fun h => hA ?_) (fun h => hB ?_) <;> clear hA hB A B))
        | refine WP.q ?_ | refine WP.b ?_)
      refine ⟨n - 1, by omega, i + 1, by omega, rfl, by simp [g0], by simp [g1], by simp, ?_⟩
      rw [htk, inQ, List.any_append, ← inQ, hin]
      simp [hc]
  · have hlt : ¬ ((i : Int) < (D.length : Int)) := by omega
    have he : D.take i = D := List.take_of_length_le (by omega)
    rw [he] at hin
    repeat' (first
      | refine WP.t ?_ | refine WP.k ?_ | refine WP.e ?_ | refine Qn ?_ | refine Qr ?_ | refine Qe ?_ | refine Bn ?_ | refine Br ?_ | refine Be ?_ | refine Bx (by decide) ?_
      | (refine RS.nl ?_; refine hk _ _ ?_; clear hk k)
      | ((first | refine RS.st fun A B hA hB => ?_ | refine RQ.st fun A B hA hB => ?_); simp [g0, g1, g5, hel, hlt, hi, onW_t, onW_f, onV_s]; first | ((first | refine hA _ _ _ ?_ ?_ | refine hA _ _ _ ?_ (by first | exact .inl rfl | exact .inr (by decide)) ?_); (focus (simp [g0, g1, g5, hel, hlt, hi] <;> omega)); clear hA hB A B) | (refine hB ?_; clear hA hB A B) | (refine onV_if ?_ ?_; (focus (first | omega | (refine ⟨?_, ?_⟩ <;> omega))); simp only [onV_s]; (first | refine hA _ _ _ ?_ ?_ | refine hA _ _ _ ?_ (by first | exact .inl rfl | exact .inr (by decide)) ?_); (focus (simp [g0, g1, g5, hel, hlt, hi] <;> omega)); clear hA hB A B))
      | (refine RQ.nl ?_; refine hk _ _ ?_; clear hk k)
      | refine WP.sr fun k hk => ?_ | refine WP.r fun k hk => ?_
      | refine WP.sd _ rfl fun k hk => ?_ | refine WP.d _ rfl fun k hk => ?_
      | (refine WP.cc fun A B hA hB => ?_; simp [g0, g1, g5, hel, hlt, hi, onB_t, onB_f]; first | (refine hA ?_; clear hA hB A B) | (refine hB ?_; clear hA hB A B) | (refine onB_if (fun h => hA ?_) (fun h => hB ?_) <;> clear hA hB A B))
      | refine WP.q ?_ | refine WP.b ?_)
    simp [hin]
def pIn : List AV → Option AV
  | [.sl es, .sl ts] => match decD es, decL ts with
    | some D, some t => if okRs D = true ∧ okR t = true then some (.bool (inQ D t)) else none
    | _, _ => none
  | _ => none
noncomputable def Y3 : Fns := Y2.addP 41 pIn
theorem Y3_ok (hK : 0 < K) (hT : Tens gw) : FOk (env K gw) Y3 := by
  refine (Y2_ok hK hT).addP ?_
  intro xs s r h
  unfold pIn at h
  split at h
  · split at h
    · rename_i D t hD ht
      split at h
      · rename_i hc
        cases h
        rw [decD_eq hD, decL_eq ht]
        exact ft_in hK hT D t hc.1 hc.2
      · cases h
    · cases h
  · cases h
end
end Go.Am
namespace Go.Am
open Go.Proofs
theorem frz_encD {s1 : St} {n rd : Nat} {k : RK} {D : Rows0} {m : Nat} (hr : s1.get rd = some (.row 1 k (encD D))) (hn : n ≤ rd) (hm : m = D.length) : Frz s1 n (.ls rd 0 m) (.sl (encD D)) := by
  have hl : m = (encD D).length := by simp [encD, hm]
  rw [hl]
  refine .row rd 1 k _ _ hr hn rfl (fun e he => ?_) (fun i j y hy => ⟨y, hy⟩) (fun i j x y hx hy => ?_)
  · obtain ⟨v, _, rfl⟩ := List.mem_map.1 he; rfl
  · rw [hx] at hy
    obtain rfl := Option.some.inj hy
    exact .same x (allGet2' (below_esD n D) i j x hx)
theorem frz_ref {s1 : St} {n : Nat} {k : Int} {x y z x' y' z' : AV} (h1 : Frz s1 n x x') (h2 : Frz s1 n y y') (h3 : Frz s1 n z z') : Frz s1 n (.agg [.int .i64 k, x, y, z]) (.agg [.int .i64 k, x', y', z']) :=
  .agg _ _ rfl fun i a b ha hb => by
    match i, ha, hb with
    | 0, ha, hb => simp at ha hb; subst ha; subst hb; exact .same _ (.int _ _)
    | 1, ha, hb => simp at ha hb; subst ha; subst hb; exact h1
    | 2, ha, hb => simp at ha hb; subst ha; subst hb; exact h2
    | 3, ha, hb => simp at ha hb; subst ha; subst hb; exact h3
theorem frz_D {s1 : St} {n : Nat} (D : Rows0) : Frz s1 n (.sl (encD D)) (.sl (encD D)) := .same _ (below_sl.2 (below_esD n D))
theorem encD_app (A B : Rows0) : encD (A ++ B) = encD A ++ encD B := by simp [encD]
section
variable {K : Nat} {gw : World} {s : St}
attribute [local simp] awanted xop zOf zrow aop ev T0 Slots.put Slots.set Slots.get awr WOk AV.may ofConst abinop aint isConst St.get_push St.get_put St.live AV.fit AV.cells AV.one fieldOf afieldAddr aload ofCells astore splice May eqres env_ti FinP FinZ FinW ares aresL ares1 Fns.addP Fns.add Fns.a0 Fns.a1 Fns.a2 Fns.a3 Fns.a4 abuiltin alenOk alen aindex elemOfT elemId abuildSlice afill chunks ard aappend isSS AV.isStr aminmax placesOf abuild afield aidx isStrD isStrDesc astrop aslice asliceOk abound arange anext aextract aunop aeq AV.ck avseq aveq aconv aconvert onB_t onB_f List.range_succ ti0 ti1 ti2 ti3 ti4 ti5 ti6 ti7 ti8 ti9 ti10 ti11 ti12 ti13 ti14 ti15 ti16 ti17 ti18 ti19 ti20 ti21 ti22 ti23 ti24 ti25 ti26 ti27 ti28 ti29 ti30 ti31 ti32 ti33 ti34 ti35 ti36 ti37 ti38 ti39 ti40 ti41 ti42 ti43 ti44 ti45 ti46 ti47 ti48 ti49 ti50 ti51 ti52 ti53 ti54 ti55 ti56 ti57 ti58 ti59 ti60 ti61 ti62 ti63 ti64 ti65 ti66 ti67 ti68 ti69 ti70 ti71 ti72 ti73 ti74 ti75 ti76 ti77 ti78 ti79 ti80 ti81 ti82 ti83 ti84 ti85 ti86 ti87 ti88 ti89 ti90 ti91 ti92 ti93 ti94 ti95 ti96 ti97 ti98 ti99 ti100 ti101 ti102 ti103 ti104 ti105 ti106 ti107 ti108 ti109 ti110 ti111 ti112 ti113 ti114 ti115 ti116 ti117 ti118 ti119 ti120 ti121 ti122 ti123 ti124 ti125 ti126 ti127 ti128 ti129 ti130 ti131 ti132 ti133 ti134 ti135 ti136 ti137 ti138 ti139 ti140 ti141 ti142 ti143 ti144 ti145 ti146 ti147
theorem Y3_in (D : Rows0) (t : List V) (hD : okRs D = true) (ht : okR t = true) : Y3 41 [.sl (encD D), .sl (t.map V.cs)] s = some (.bool (inQ D t), s, []) := by
  simp only [Y3, Fns.addP]
  simp [pIn, hD, ht]
def hasQr (N D F : Rows0) (t : List V) : Bool := inQ N t || (inQ D t || inQ F t)
theorem ft_rHas (hK : 0 < K) (hT : Tens gw) (n : Int) (N D F : Rows0) (t : List V) (hN : okRs N = true) (hD : okRs D = true) (hF : okRs F = true) (ht : okR t = true) :
    FT (env K gw) NoW 25 [.agg (refC n N D F), .sl (t.map V.cs)] s (.bool (hasQr N D F t)) s := by
  refine FT.pure (fn := Tryd.f25) (Y3_ok hK hT) mixed Tryd.func25 (by kernel_rfl) (by rfl) rfl rfl (by simp) rfl fun μ w => ?_
  have h1 := fun s2 : St => Y3_in (s := s2) N t hN ht
  have h2 := fun s2 : St => Y3_in (s := s2) D t hD ht
  have h3 := fun s2 : St => Y3_in (s := s2) F t hF ht
  cases e1 : inQ N t
  · cases e2 : inQ D t
    · rw [e1] at h1
      rw [e2] at h2
      repeat' (first
        | refine WP.t ?_ | refine WP.k ?_ | refine WP.e ?_ | refine Qn ?_ | refine Qr ?_ | refine Qe ?_ | refine Bn ?_ | refine Br ?_ | refine Be ?_ | refine Bx (by decide) ?_
        | (refine RS.nl ?_; refine hk _ _ ?_; clear hk k)
        | ((first | refine RS.st fun A B hA hB => ?_ | refine RQ.st fun A B hA hB => ?_); simp [refC, h1, h2, h3, onW_t, onW_f, onV_s]; first | ((first | refine hA _ _ _ ?_ ?_ | refine hA _ _ _ ?_ (by first | exact .inl rfl | exact .inr (by decide)) ?_); (focus (simp [refC, h1, h2, h3] <;> omega)); clear hA hB A B) | (refine hB ?_; clear hA hB A B) | (refine onV_if ?_ ?_; (focus (first | omega | (refine ⟨?_, ?_⟩ <;> omega))); simp only [onV_s]; (first | refine hA _ _ _ ?_ ?_ | refine hA _ _ _ ?_ (by first | exact .inl rfl | exact .inr (by decide)) ?_); (focus (simp [refC, h1, h2, h3] <;> omega)); clear hA hB A B))
        | (refine RQ.nl ?_; refine hk _ _ ?_; clear hk k)
        | refine WP.sr fun k hk => ?_ | refine WP.r fun k hk => ?_
        | refine WP.sd _ rfl fun k hk => ?_ | refine WP.d _ rfl fun k hk => ?_
        | (refine WP.cc fun A B hA hB => ?_; simp [refC, h1, h2, h3, onB_t, onB_f]; first | (refine hA ?_; clear hA hB A B) | (refine hB ?_; clear hA hB A B) | (refine onB_if (fun h => hA ?_) (fun h => hB ?_) <;> clear hA hB A B))
        | refine WP.q ?_ | refine WP.b ?_)
      simp [hasQr, e1, e2]
    · rw [e1] at h1
      rw [e2] at h2
      repeat' (first
        | refine WP.t ?_ | refine WP.k ?_ | refine WP.e ?_ | refine Qn ?_ | refine Qr ?_ | refine Qe ?_ | refine Bn ?_ | refine Br ?_ | refine Be ?_ | refine Bx (by decide) ?_
        | (refine RS.nl ?_; refine hk _ _ ?_; clear hk k)
        | ((first | refine RS.st fun A B hA hB => ?_ | refine RQ.st fun A B hA hB => ?_); simp [refC, h1, h2, h3, onW_t, onW_f, onV_s]; first | ((first | refine hA _ _ _ ?_ ?_ | refine hA _ _ _ ?_ (by first | exact .inl rfl | exact .inr (by decide)) ?_); (focus (simp [refC, h1, h2, h3] <;> omega)); clear hA hB A B) | (refine hB ?_; clear hA hB A B) | (refine onV_if ?_ ?_; (focus (first | omega | (refine ⟨?_, ?_⟩ <;> omega))); simp only [onV_s]; (first | refine hA _ _ _ ?_ ?_ | refine hA _ _ _ ?_ (by first | exact .inl rfl | exact .inr (by decide)) ?_); (focus (simp [refC, h1, h2, h3] <;> omega)); clear hA hB A B))
        | (refine RQ.nl ?_; refine hk _ _ ?_; clear hk k)
        | refine WP.sr fun k hk => ?_ | refine WP.r fun k hk => ?_
        | refine WP.sd _ rfl fun k hk => ?_ | refine WP.d _ rfl fun k hk => ?_
        | (refine WP.cc fun A B hA hB => ?_; simp [refC, h1, h2, h3, onB_t, onB_f]; first | (refine hA ?_; clear hA hB A B) | (refine hB ?_; clear hA hB A B) | (refine onB_if (fun h => hA ?_) (fun h => hB ?_) <;> clear hA hB A B))
        | refine WP.q ?_ | refine WP.b ?_)
      simp [hasQr, e1, e2]
  · rw [e1] at h1
    repeat' (first
      | refine WP.t ?_ | refine WP.k ?_ | refine WP.e ?_ | refine Qn ?_ | refine Qr ?_ | refine Qe ?_ | refine Bn ?_ | refine Br ?_ | refine Be ?_ | refine Bx (by decide) ?_
      | (refine RS.nl ?_; refine hk _ _ ?_; clear hk k)
      | ((first | refine RS.st fun A B hA hB => ?_ | refine RQ.st fun A B hA hB => ?_); simp [refC, h1, h2, h3, onW_t, onW_f, onV_s]; first | ((first | refine hA _ _ _ ?_ ?_ | refine hA _ _ _ ?_ (by first | exact .inl rfl | exact .inr (by decide)) ?_); (focus (simp [refC, h1, h2, h3] <;> omega)); clear hA hB A B) | (refine hB ?_; clear hA hB A B) | (refine onV_if ?_ ?_; (focus (first | omega | (refine ⟨?_, ?_⟩ <;> omega))); simp only [onV_s]; (first | refine hA _ _ _ ?_ ?_ | refine hA _ _ _ ?_ (by first | exact .inl rfl | exact .inr (by decide)) ?_); (focus (simp [refC, h1, h2, h3] <;> omega)); clear hA hB A B))
      | (refine RQ.nl ?_; refine hk _ _ ?_; clear hk k)
      | refine WP.sr fun k hk => ?_ | refine WP.r fun k hk => ?_
      | refine WP.sd _ rfl fun k hk => ?_ | refine WP.d _ rfl fun k hk => ?_
      | (refine WP.cc fun A B hA hB => ?_; simp [refC, h1, h2, h3, onB_t, onB_f]; first | (refine hA ?_; clear hA hB A B) | (refine hB ?_; clear hA hB A B) | (refine onB_if (fun h => hA ?_) (fun h => hB ?_) <;> clear hA hB A B))
      | refine WP.q ?_ | refine WP.b ?_)
    simp [hasQr, e1]
def pRHas : List AV → Option AV
  | [.agg [.int .i64 n, .sl a, .sl b, .sl c], .sl ts] => match decD a, decD b, decD c, decL ts with
    | some N, some D, some F, some t => if (okRs N = true ∧ okRs D = true) ∧ okRs F = true ∧ okR t = true then some (.bool (hasQr N D F t)) else none
    | _, _, _, _ => none
  | _ => none
noncomputable def Y4 : Fns := Y3.addN 25 pRHas
theorem Y4_ok (hK : 0 < K) (hT : Tens gw) : FOk (env K gw) Y4 := by
  refine (Y3_ok hK hT).addN ?_
  intro xs s r h
  unfold pRHas at h
  split at h
  · split at h
    · rename_i N D F t h1 h2 h3 h4
      split at h
      · rename_i hc
        cases h
        rw [decD_eq h1, decD_eq h2, decD_eq h3, decL_eq h4]
        exact ft_rHas hK hT _ N D F t hc.1.1 hc.1.2 hc.2.1 hc.2.2
      · cases h
    · cases h
  · cases h
theorem Y4_has (n : Int) (N D F : Rows0) (t : List V) (hN : okRs N = true) (hD : okRs D = true) (hF : okRs F = true) (ht : okR t = true) :
    Y4 25 [.agg (refC n N D F), .sl (t.map V.cs)] s = some (.bool (hasQr N D F t), s, []) := by
  simp only [Y4, Fns.addN, Fns.addP, refC]
  simp [pRHas, nrm, nrm0, hN, hD, hF, ht]
theorem Y4_of (t : List V) (hl : t.length < 1073741824) : Y4 40 [.sl (t.map V.cs)] s = some (.sl ((t.map bareV).map V.cs), s, []) := by
  simp only [Y4, Y3, Y2, Fns.addN, Fns.addP]
  simp [pOf, hl]
def rAddV (n : Nat) (N D F : Rows0) (t : List V) : AV :=
  if t.length = n then (if hasQr N D F t then .tup [.agg (refC n N D F), .bool false, .int .i64 0] else .tup [.agg (refC n (N ++ [t.map bareV]) D F), .bool true, .int .i64 0]) else .tup [.agg (refC n N D F), .bool false, .int .i64 1]
theorem ft_rAdd (hK : 0 < K) (hT : Tens gw) (n : Nat) (N D F : Rows0) (t : List V) (hN : okRs N = true) (hD : okRs D = true) (hF : okRs F = true) (ht : okR t = true) (hl : t.length < 1073741824) :
    FT (env K gw) NoW 22 [.agg (refC n N D F), .sl (t.map V.cs)] s (rAddV n N D F t) s := by
  refine FT.data (fn := Tryd.f22) (Y4_ok hK hT) mixed Tryd.func22 (by kernel_rfl) (by rfl) rfl rfl (by simp) rfl fun μ w => ?_
  have hh := fun s2 : St => Y4_has (s := s2) n N D F t hN hD hF ht
  have ho := fun s2 : St => Y4_of (s := s2) t hl
  simp only [refC] at hh
  unfold rAddV
  by_cases hc : t.length = n
  · rw [if_pos hc]
    have hb : (((t.length : Nat) : Int) != ((n : Nat) : Int)) = false := by simp [hc]
    cases e : hasQr N D F t with
    | true =>
      rw [e] at hh
      repeat' (first
        | refine WP.t ?_ | refine WP.k ?_ | refine WP.e ?_ | refine Qn ?_ | refine Qr ?_ | refine Qe ?_ | refine Bn ?_ | refine Br ?_ | refine Be ?_ | refine Bx (by decide) ?_
        | (refine RS.nl ?_; refine hk _ _ ?_; clear hk k)
        | ((first | refine RS.st fun A B hA hB => ?_ | refine RQ.st fun A B hA hB => ?_); simp [refC, hc, hh, onW_t, onW_f, onV_s]; first | ((first | refine hA _ _ _ ?_ ?_ | refine hA _ _ _ ?_ (by first | exact .inl rfl | exact .inr (by decide)) ?_); (focus (simp [refC, hc, hh] <;> omega)); clear hA hB A B) | (refine hB ?_; clear hA hB A B) | (refine onV_if ?_ ?_; (focus (first | omega | (refine ⟨?_, ?_⟩ <;> omega))); simp only [onV_s]; (first | refine hA _ _ _ ?_ ?_ | refine hA _ _ _ ?_ (by first | exact .inl rfl | exact .inr (by decide)) ?_); (focus (simp [refC, hc, hh] <;> omega)); clear hA hB A B))
        | (refine RQ.nl ?_; refine hk _ _ ?_; clear hk k)
        | refine WP.sr fun k hk => ?_ | refine WP.r fun k hk => ?_
        | refine WP.sd _ rfl fun k hk => ?_ | refine WP.d _ rfl fun k hk => ?_
        | (refine WP.cc fun A B hA hB => ?_; simp [refC, hc, hh, onB_t, onB_f]; first | (refine hA ?_; clear hA hB A B) | (refine hB ?_; clear hA hB A B) | (refine onB_if (fun h => hA ?_) (fun h => hB ?_) <;> clear hA hB A B))
        | refine WP.q ?_ | refine WP.b ?_)
      simp only [if_true]
      exact ⟨.inr rfl, .tup [.agg (refC n N D F), .bool false, .int .i64 0], by simp [refC], frz_tup3 (frz_ref (frz_D N) (frz_D D) (frz_D F)) (.same _ (.bool _)) (.same _ (.int _ _))⟩
    | false =>
      rw [e] at hh
      have hm : ∀ e : List AV, (e ∈ encD N) = ∃ r, r ∈ N ∧ [.sl (r.map V.cs)] = e := fun e => by simp [encD, Rw]
      have hnl := (okRs_iff.1 hN).2
      have hel : (encD N).length = N.length := by simp [encD]
      have hb1 : ∀ (a : V) (x : AV), (x ∈ (bareV a).cs) = (x = .bool (bareV a).b ∨ x = .str (bareV a).s ∨ x = .int .i64 (bareV a).n) := fun a x => by simp [V.cs]
      have hby : N.length * 24 ≤ 140737488355328 := by omega
      have hby2 : (N.length + 1) * 24 ≤ 140737488355328 := by omega
      repeat' (first
        | refine WP.t ?_ | refine WP.k ?_ | refine WP.e ?_ | refine Qn ?_ | refine Qr ?_ | refine Qe ?_ | refine Bn ?_ | refine Br ?_ | refine Be ?_ | refine Bx (by decide) ?_
        | (refine RS.nl ?_; refine hk _ _ ?_; clear hk k)
        | ((first | refine RS.st fun A B hA hB => ?_ | refine RQ.st fun A B hA hB => ?_); simp [refC, hc, hh, ho, hm, hel, hb1, hby, hby2, St.get_drop, onW_t, onW_f, onV_s]; first | ((first | refine hA _ _ _ ?_ ?_ | refine hA _ _ _ ?_ (by first | exact .inl rfl | exact .inr (by decide)) ?_); (focus (simp [refC, hc, hh, ho, hm, hel, hb1, hby, hby2, St.get_drop] <;> omega)); clear hA hB A B) | (refine hB ?_; clear hA hB A B) | (refine onV_if ?_ ?_; (focus (first | omega | (refine ⟨?_, ?_⟩ <;> omega))); simp only [onV_s]; (first | refine hA _ _ _ ?_ ?_ | refine hA _ _ _ ?_ (by first | exact .inl rfl | exact .inr (by decide)) ?_); (focus (simp [refC, hc, hh, ho, hm, hel, hb1, hby, hby2, St.get_drop] <;> omega)); clear hA hB A B))
        | (refine RQ.nl ?_; refine hk _ _ ?_; clear hk k)
        | refine WP.sr fun k hk => ?_ | refine WP.r fun k hk => ?_
        | refine WP.sd _ rfl fun k hk => ?_ | refine WP.d _ rfl fun k hk => ?_
        | (refine WP.cc fun A B hA hB => ?_; simp [refC, hc, hh, ho, hm, hel, hb1, hby, hby2, St.get_drop, onB_t, onB_f]; first | (refine hA ?_; clear hA hB A B) | (refine hB ?_; clear hA hB A B) | (refine onB_if (fun h => hA ?_) (fun h => hB ?_) <;> clear hA hB A B))
        | refine WP.q ?_ | refine WP.b ?_)
      simp only [Bool.false_eq_true, if_false]
      have e2 : ∀ (s2 : St) (m : Nat), s2.nx = m → ∀ o, (s2.push o).get m = some o := fun s2 m h o => by rw [← h]; exact St.get_push_same _ _
      have hcs : [[AV.sl (List.map (V.cs ∘ bareV) t)]] = encD [t.map bareV] := by simp [encD, Rw]
      exact ⟨.inr rfl, .tup [.agg [.int .i64 (n : Int), .ls (s.nx + 4) 0 (N.length + 1), .sl (encD D), .sl (encD F)], .bool true, .int .i64 0], by simp, frz_tup3 (frz_ref (frz_encD (k := (true, 33)) (D := N ++ [t.map bareV]) (by rw [encD_app, ← hcs]; simp [St.get_push, St.get_drop]) (by omega) (by simp)) (frz_D D) (frz_D F)) (.same _ (.bool _)) (.same _ (.int _ _))⟩
  · rw [if_neg hc]
    have hb : (((t.length : Nat) : Int) != ((n : Nat) : Int)) = true := bne_iff_ne.2 (by omega)
    repeat' (first
      | refine WP.t ?_ | refine WP.k ?_ | refine WP.e ?_ | refine Qn ?_ | refine Qr ?_ | refine Qe ?_ | refine Bn ?_ | refine Br ?_ | refine Be ?_ | refine Bx (by decide) ?_
      | (refine RS.nl ?_; refine hk _ _ ?_; clear hk k)
      | ((first | refine RS.st fun A B hA hB => ?_ | refine RQ.st fun A B hA hB => ?_); simp [refC, hb, onW_t, onW_f, onV_s]; first | ((first | refine hA _ _ _ ?_ ?_ | refine hA _ _ _ ?_ (by first | exact .inl rfl | exact .inr (by decide)) ?_); (focus (simp [refC, hb] <;> omega)); clear hA hB A B) | (refine hB ?_; clear hA hB A B) | (refine onV_if ?_ ?_; (focus (first | omega | (refine ⟨?_, ?_⟩ <;> omega))); simp only [onV_s]; (first | refine hA _ _ _ ?_ ?_ | refine hA _ _ _ ?_ (by first | exact .inl rfl | exact .inr (by decide)) ?_); (focus (simp [refC, hb] <;> omega)); clear hA hB A B))
      | (refine RQ.nl ?_; refine hk _ _ ?_; clear hk k)
      | refine WP.sr fun k hk => ?_ | refine WP.r fun k hk => ?_
      | refine WP.sd _ rfl fun k hk => ?_ | refine WP.d _ rfl fun k hk => ?_
      | (refine WP.cc fun A B hA hB => ?_; simp [refC, hb, onB_t, onB_f]; first | (refine hA ?_; clear hA hB A B) | (refine hB ?_; clear hA hB A B) | (refine onB_if (fun h => hA ?_) (fun h => hB ?_) <;> clear hA hB A B))
      | refine WP.q ?_ | refine WP.b ?_)
    exact ⟨.inr rfl, .tup [.agg (refC n N D F), .bool false, .int .i64 1], by simp [refC], frz_tup3 (frz_ref (frz_D N) (frz_D D) (frz_D F)) (.same _ (.bool _)) (.same _ (.int _ _))⟩
end
end Go.Am
namespace Go.Am
open Go.Proofs
section
variable {K : Nat} {gw : World} {s : St}
attribute [local simp] awanted xop zOf zrow aop ev T0 Slots.put Slots.set Slots.get awr WOk AV.may ofConst abinop aint isConst St.get_push St.get_put St.live AV.fit AV.cells AV.one fieldOf afieldAddr aload ofCells astore splice May eqres env_ti FinP FinZ FinW ares aresL ares1 Fns.addP Fns.add Fns.a0 Fns.a1 Fns.a2 Fns.a3 Fns.a4 abuiltin alenOk alen aindex elemOfT elemId abuildSlice afill chunks ard aappend isSS AV.isStr aminmax placesOf abuild afield aidx isStrD isStrDesc astrop aslice asliceOk abound arange anext aextract aunop aeq AV.ck avseq aveq aconv aconvert onB_t onB_f List.range_succ ti0 ti1 ti2 ti3 ti4 ti5 ti6 ti7 ti8 ti9 ti10 ti11 ti12 ti13 ti14 ti15 ti16 ti17 ti18 ti19 ti20 ti21 ti22 ti23 ti24 ti25 ti26 ti27 ti28 ti29 ti30 ti31 ti32 ti33 ti34 ti35 ti36 ti37 ti38 ti39 ti40 ti41 ti42 ti43 ti44 ti45 ti46 ti47 ti48 ti49 ti50 ti51 ti52 ti53 ti54 ti55 ti56 ti57 ti58 ti59 ti60 ti61 ti62 ti63 ti64 ti65 ti66 ti67 ti68 ti69 ti70 ti71 ti72 ti73 ti74 ti75 ti76 ti77 ti78 ti79 ti80 ti81 ti82 ti83 ti84 ti85 ti86 ti87 ti88 ti89 ti90 ti91 ti92 ti93 ti94 ti95 ti96 ti97 ti98 ti99 ti100 ti101 ti102 ti103 ti104 ti105 ti106 ti107 ti108 ti109 ti110 ti111 ti112 ti113 ti114 ti115 ti116 ti117 ti118 ti119 ti120 ti121 ti122 ti123 ti124 ti125 ti126 ti127 ti128 ti129 ti130 ti131 ti132 ti133 ti134 ti135 ti136 ti137 ti138 ti139 ti140 ti141 ti142 ti143 ti144 ti145 ti146 ti147
def rTurnV (n : Nat) (N D F : Rows0) : AV := .tup [.agg (refC n [] N (F ++ D)), .bool (decide (0 < (N.length : Int)))]
theorem ft_rTurn (n : Nat) (N D F : Rows0) (hN : N.length < 268435456) (hD : D.length < 268435456) (hF : F.length < 268435456) :
    FT (env K gw) NoW 23 [.agg (refC n N D F)] s (rTurnV n N D F) s := by
  refine FT.data (fn := Tryd.f23) F0_ok mixed Tryd.func23 (by kernel_rfl) (by rfl) rfl rfl (by simp) rfl fun μ w => ?_
  have hmF : ∀ e : List AV, (e ∈ encD F) = ∃ r, r ∈ F ∧ [.sl (r.map V.cs)] = e := fun e => by simp [encD, Rw]
  have hmD : ∀ e : List AV, (e ∈ encD D) = ∃ r, r ∈ D ∧ [.sl (r.map V.cs)] = e := fun e => by simp [encD, Rw]
  have helF : (encD F).length = F.length := by simp [encD]
  have helD : (encD D).length = D.length := by simp [encD]
  have helN : (encD N).length = N.length := by simp [encD]
  have hby : F.length * 24 ≤ 140737488355328 := by omega
  have hby2 : (F.length + D.length) * 24 ≤ 140737488355328 := by omega
  generalize hs1 : (s.push (.var 50 [.int .i64 (n : Int), .sl (encD N), .sl (encD D), .sl (encD F)])).push (.var 50 [.int .i64 0, .nsl, .nsl, .nsl]) = s1
  have hn1 : s1.nx = s.nx + 2 := by rw [← hs1]; simp
  have hg1 : s1.get s.nx = some (.var 50 [.int .i64 (n : Int), .sl (encD N), .sl (encD D), .sl (encD F)]) := by rw [← hs1]; simp [St.get_push]
  have hg2 : s1.get (s.nx + 1) = some (.var 50 [.int .i64 0, .nsl, .nsl, .nsl]) := by rw [← hs1]; simp [St.get_push]
  repeat' (first
    | (refine WP.swb (id := 1) true 6 (by decide) (by decide) (Keep s1 [s.nx]) fun k hk => ?_)
    | refine WP.t ?_ | refine WP.k ?_ | refine WP.e ?_ | refine Qn ?_ | refine Qr ?_ | refine Qe ?_ | refine Bn ?_ | refine Br ?_ | refine Be ?_ | refine Bx (by decide) ?_
    | (refine RS.nl ?_; refine hk _ _ ?_; clear hk k)
    | ((first | refine RS.st fun A B hA hB => ?_ | refine RQ.st fun A B hA hB => ?_); simp [refC, hs1, hn1, hg1, hg2, hmF, hmD, helF, helD, helN, hby, hby2, St.get_drop, onW_t, onW_f, onV_s]; first | ((first | refine hA _ _ _ ?_ ?_ | refine hA _ _ _ ?_ (by first | exact .inl rfl | exact .inr (by decide)) ?_); (focus (simp [refC, hs1, hn1, hg1, hg2, hmF, hmD, helF, helD, helN, hby, hby2, St.get_drop] <;> omega)); clear hA hB A B) | (refine hB ?_; clear hA hB A B) | (refine onV_if ?_ ?_; (focus (first | omega | (refine ⟨?_, ?_⟩ <;> omega))); simp only [onV_s]; (first | refine hA _ _ _ ?_ ?_ | refine hA _ _ _ ?_ (by first | exact .inl rfl | exact .inr (by decide)) ?_); (focus (simp [refC, hs1, hn1, hg1, hg2, hmF, hmD, helF, helD, helN, hby, hby2, St.get_drop] <;> omega)); clear hA hB A B))
    | (refine RQ.nl ?_; refine hk _ _ ?_; clear hk k)
    | (refine RW.nl ?_ ?_; (focus (first | exact .inl (by decide) | (refine .inr ?_; (simp [refC, hs1, hn1, hg1, hg2, hmF, hmD, helF, helD, helN, hby, hby2, St.get_drop] <;> omega)))); refine hk _ _ ?_; clear hk k)
    | (refine RW.st ?_ fun A B hA hB => ?_; (focus (first | exact .inl (by decide) | (refine .inr ?_; (simp [refC, hs1, hn1, hg1, hg2, hmF, hmD, helF, helD, helN, hby, hby2, St.get_drop] <;> omega)))); simp [refC, hs1, hn1, hg1, hg2, hmF, hmD, helF, helD, helN, hby, hby2, St.get_drop, onW_t, onW_f, onV_s]; first | (refine hA _ _ _ ?_ ?_ ?_ ?_; (focus (simp [refC, hs1, hn1, hg1, hg2, hmF, hmD, helF, helD, helN, hby, hby2, St.get_drop] <;> omega)); (focus (first | exact .inl (by decide) | exact .inr (.inl rfl) | exact .inr (.inr rfl))); (focus (first | exact .inl (by decide) | exact .inr (.inl (by decide)) | (refine .inr (.inr fun s2 hs2 => ?_); have hs2n := hs2.nx; simp only [Keep_cons, Keep_nil] at hs2; simp [refC, hs1, hn1, hg1, hg2, hmF, hmD, helF, helD, helN, hby, hby2, St.get_drop, hs2, hs2n]; done))); clear hA hB A B) | (refine hB ?_; clear hA hB A B))
    | refine WP.sr fun k hk => ?_ | refine WP.r fun k hk => ?_
    | (refine WP.swK [s.nx] ?_ fun k hk => ?_; (focus (decide))) | (refine WP.wK [s.nx] ?_ fun k hk => ?_; (focus (decide))) | refine WP.sd _ rfl fun k hk => ?_ | refine WP.d _ rfl fun k hk => ?_
    | (refine WP.cc fun A B hA hB => ?_; simp [refC, hs1, hn1, hg1, hg2, hmF, hmD, helF, helD, helN, hby, hby2, St.get_drop, onB_t, onB_f]; first | (refine hA ?_; clear hA hB A B) | (refine hB ?_; clear hA hB A B) | (refine onB_if (fun h => hA ?_) (fun h => hB ?_) <;> clear hA hB A B))
    | refine WP.q ?_ | refine WP.b ?_)
  have e2 : ∀ (s2 : St) (m : Nat), s2.nx = m → ∀ o, (s2.push o).get m = some o := fun s2 m h o => by rw [← h]; exact St.get_push_same _ _
  have q0 : ¬ s1.nx + 1 + 1 = s.nx := by omega
  have q1 : ¬ s1.nx + 1 + 1 = s.nx + 1 := by omega
  refine ⟨.inr rfl, .tup [.agg [.int .i64 (n : Int), .nsl, .sl (encD N), .ls (s1.nx + 1 + 1) 0 (F.length + D.length)], .bool (decide (0 < (N.length : Int)))], by simp [hn1], frz_tup2 (frz_ref .nil (frz_D N) (frz_encD (k := (true, 33)) (D := F ++ D) ?_ (by omega) (by simp))) (.same _ (.bool _))⟩
  simp only [St.get_put, q0, q1, if_false]
  rw [e2 _ _ (by simp), encD_app]
def rowsV (N D F : Rows0) : Rows0 := F ++ D ++ N
theorem ft_rRows (n : Nat) (N D F : Rows0) (hN : N.length < 268435456) (hD : D.length < 268435456) (hF : F.length < 268435456) :
    FT (env K gw) NoW 26 [.agg (refC n N D F)] s (.sl (encD (rowsV N D F))) s := by
  refine FT.data (fn := Tryd.f26) F0_ok mixed Tryd.func26 (by kernel_rfl) (by rfl) rfl rfl (by simp) rfl fun μ w => ?_
  have hmF : ∀ e : List AV, (e ∈ encD F) = ∃ r, r ∈ F ∧ [.sl (r.map V.cs)] = e := fun e => by simp [encD, Rw]
  have hmD : ∀ e : List AV, (e ∈ encD D) = ∃ r, r ∈ D ∧ [.sl (r.map V.cs)] = e := fun e => by simp [encD, Rw]
  have hmN : ∀ e : List AV, (e ∈ encD N) = ∃ r, r ∈ N ∧ [.sl (r.map V.cs)] = e := fun e => by simp [encD, Rw]
  have helF : (encD F).length = F.length := by simp [encD]
  have helD : (encD D).length = D.length := by simp [encD]
  have helN : (encD N).length = N.length := by simp [encD]
  have hby : F.length * 24 ≤ 140737488355328 := by omega
  have hby2 : (F.length + D.length) * 24 ≤ 140737488355328 := by omega
  have hby3 : (F.length + D.length + N.length) * 24 ≤ 140737488355328 := by omega
  have hap : encD F ++ (encD D ++ encD N) = encD (rowsV N D F) := by simp [rowsV, encD_app]
  generalize hs1 : s.push (.var 50 [.int .i64 (n : Int), .sl (encD N), .sl (encD D), .sl (encD F)]) = s1
  have hn1 : s1.nx = s.nx + 1 := by rw [← hs1]; simp
  have hg1 : s1.get s.nx = some (.var 50 [.int .i64 (n : Int), .sl (encD N), .sl (encD D), .sl (encD F)]) := by rw [← hs1]; simp [St.get_push]
  repeat' (first
    | (refine WP.swb (id := 1) true 6 (by decide) (by decide) (Keep s1 [s.nx]) fun k hk => ?_)
    | refine WP.t ?_ | refine WP.k ?_ | refine WP.e ?_ | refine Qn ?_ | refine Qr ?_ | refine Qe ?_ | refine Bn ?_ | refine Br ?_ | refine Be ?_ | refine Bx (by decide) ?_
    | (refine RS.nl ?_; refine hk _ _ ?_; clear hk k)
    | ((first | refine RS.st fun A B hA hB => ?_ | refine RQ.st fun A B hA hB => ?_); simp [refC, hs1, hn1, hg1, hmF, hmD, hmN, helF, helD, helN, hby, hby2, hby3, St.get_drop, onW_t, onW_f, onV_s]; first | ((first | refine hA _ _ _ ?_ ?_ | refine hA _ _ _ ?_ (by first | exact .inl rfl | exact .inr (by decide)) ?_); (focus (simp [refC, hs1, hn1, hg1, hmF, hmD, hmN, helF, helD, helN, hby, hby2, hby3, St.get_drop] <;> omega)); clear hA hB A B) | (refine hB ?_; clear hA hB A B) | (refine onV_if ?_ ?_; (focus (first | omega | (refine ⟨?_, ?_⟩ <;> omega))); simp only [onV_s]; (first | refine hA _ _ _ ?_ ?_ | refine hA _ _ _ ?_ (by first | exact .inl rfl | exact .inr (by decide)) ?_); (focus (simp [refC, hs1, hn1, hg1, hmF, hmD, hmN, helF, helD, helN, hby, hby2, hby3, St.get_drop] <;> omega)); clear hA hB A B))
    | (refine RQ.nl ?_; refine hk _ _ ?_; clear hk k)
    | (refine RW.nl ?_ ?_; (focus (first | exact .inl (by decide) | (refine .inr ?_; (simp [refC, hs1, hn1, hg1, hmF, hmD, hmN, helF, helD, helN, hby, hby2, hby3, St.get_drop] <;> omega)))); refine hk _ _ ?_; clear hk k)
    | (refine RW.st ?_ fun A B hA hB => ?_; (focus (first | exact .inl (by decide) | (refine .inr ?_; (simp [refC, hs1, hn1, hg1, hmF, hmD, hmN, helF, helD, helN, hby, hby2, hby3, St.get_drop] <;> omega)))); simp [refC, hs1, hn1, hg1, hmF, hmD, hmN, helF, helD, helN, hby, hby2, hby3, St.get_drop, onW_t, onW_f, onV_s]; first | (refine hA _ _ _ ?_ ?_ ?_ ?_; (focus (simp [refC, hs1, hn1, hg1, hmF, hmD, hmN, helF, helD, helN, hby, hby2, hby3, St.get_drop] <;> omega)); (focus (first | exact .inl (by decide) | exact .inr (.inl rfl) | exact .inr (.inr rfl))); (focus (first | exact .inl (by decide) | exact .inr (.inl (by decide)) | (refine .inr (.inr fun s2 hs2 => ?_); have hs2n := hs2.nx; simp only [Keep_cons, Keep_nil] at hs2; simp [refC, hs1, hn1, hg1, hmF, hmD, hmN, helF, helD, helN, hby, hby2, hby3, St.get_drop, hs2, hs2n]; done))); clear hA hB A B) | (refine hB ?_; clear hA hB A B))
    | refine WP.sr fun k hk => ?_ | refine WP.r fun k hk => ?_
    | (refine WP.swK [s.nx] ?_ fun k hk => ?_; (focus (decide))) | (refine WP.wK [s.nx] ?_ fun k hk => ?_; (focus (decide))) | refine WP.sd _ rfl fun k hk => ?_ | refine WP.d _ rfl fun k hk => ?_
    | (refine WP.cc fun A B hA hB => ?_; simp [refC, hs1, hn1, hg1, hmF, hmD, hmN, helF, helD, helN, hby, hby2, hby3, St.get_drop, onB_t, onB_f]; first | (refine hA ?_; clear hA hB A B) | (refine hB ?_; clear hA hB A B) | (refine onB_if (fun h => hA ?_) (fun h => hB ?_) <;> clear hA hB A B))
    | refine WP.q ?_ | refine WP.b ?_)
  have e2 : ∀ (s2 : St) (m : Nat), s2.nx = m → ∀ o, (s2.push o).get m = some o := fun s2 m h o => by rw [← h]; exact St.get_push_same _ _
  refine ⟨.inr rfl, .ls (s1.nx + 1 + 1 + 1) 0 (F.length + D.length + N.length), by simp [hn1], frz_encD (k := (true, 33)) ?_ (by omega) (by simp [rowsV]; omega)⟩
  rw [e2 _ _ (by simp), hap]
end
end Go.Am
namespace Go.Am
open Go.Proofs
/-! ### rows, whatever holds them -/
/-- A slot that holds these rows: as data, as none, or in a row of the call's own. -/
def Holds (n0 : Nat) (T : Slots) (s : St) (i : Nat) (D : Rows0) : Prop :=
  T.get i = .sl (encD D) ∨ (T.get i = .nsl ∧ D = []) ∨ ∃ q, n0 ≤ q ∧ q < s.nx ∧ T.get i = .ls q 0 D.length ∧ s.get q = some (.row 1 (true, 33) (encD D))
theorem Holds.gh {n0 n1 : Nat} (hn : n0 ≤ n1) {T : Slots} {s : St} {i : Nat} {D : Rows0} (h : Holds n1 T s i D) : ∃ T1 s1, Gh n0 T s T1 s1 ∧ T1.get i = .sl (encD D) ∧ (∀ j, j ≠ i → T1.get j = T.get j) ∧ s1.nx = s.nx ∧ ∀ j, j < n1 → s1.get j = s.get j := by
  rcases h with h | ⟨h, rfl⟩ | ⟨q, h1, h2, h3, h4⟩
  · exact ⟨T, s, .refl _ _, h, fun _ _ => rfl, rfl, fun _ _ => rfl⟩
  · exact ⟨T.set i (.sl []), s, .nl i h (.refl _ _), by simp [Slots.get_set', encD], fun j hj => by simp [Slots.get_set', hj], rfl, fun _ _ => rfl⟩
  · have hl : D.length = (encD D).length := by simp [encD]
    refine ⟨T.set i (.sl (encD D)), s.drop q, .fz i q 1 _ _ (by rw [h3, hl]) h4 (by omega) (.refl _ _), by simp [Slots.get_set'], fun j hj => by simp [Slots.get_set', hj], rfl, fun j hj => ?_⟩
    have : ¬ j = q := by omega
    simp [St.get_drop, this]
/-- The rows that have this value there. -/
def colF (L : Rows0) (c : Nat) (v : V) : Rows0 := L.filter fun r => decide (r[c]? = some (bareV v))
def colsF : Rows0 → List Nat → List V → Rows0
  | L, c :: cols, v :: vals => colsF (colF L c v) cols vals
  | L, _, _ => L
theorem colsF_mV : ∀ (cols : List Nat) (vals : List V) (L : Rows0), colsF L cols vals = L.filter fun r => mV r cols vals
  | [], vals, L => by
    have e : colsF L [] vals = L := by cases vals <;> rfl
    rw [e, List.filter_eq_self.2]; intro r _; cases vals <;> rfl
  | c :: cols, [], L => by
    have e : colsF L (c :: cols) [] = L := rfl
    rw [e, List.filter_eq_self.2]; intro r _; rfl
  | c :: cols, v :: vals, L => by
    rw [colsF, colsF_mV cols vals, colF, List.filter_filter]
    congr 1
    funext r
    simp only [mV, Bool.and_comm]
section
variable {K : Nat} {gw : World} {s : St}
attribute [local simp] awanted xop zOf zrow aop ev T0 Slots.put Slots.set Slots.get awr WOk AV.may ofConst abinop aint isConst St.get_push St.get_put St.live AV.fit AV.cells AV.one fieldOf afieldAddr aload ofCells astore splice May eqres env_ti FinP FinZ FinW ares aresL ares1 Fns.addP Fns.add Fns.a0 Fns.a1 Fns.a2 Fns.a3 Fns.a4 abuiltin alenOk alen aindex elemOfT elemId abuildSlice afill chunks ard aappend isSS AV.isStr aminmax placesOf abuild afield aidx isStrD isStrDesc astrop aslice asliceOk abound arange anext aextract aunop aeq AV.ck avseq aveq aconv aconvert onB_t onB_f List.range_succ ti0 ti1 ti2 ti3 ti4 ti5 ti6 ti7 ti8 ti9 ti10 ti11 ti12 ti13 ti14 ti15 ti16 ti17 ti18 ti19 ti20 ti21 ti22 ti23 ti24 ti25 ti26 ti27 ti28 ti29 ti30 ti31 ti32 ti33 ti34 ti35 ti36 ti37 ti38 ti39 ti40 ti41 ti42 ti43 ti44 ti45 ti46 ti47 ti48 ti49 ti50 ti51 ti52 ti53 ti54 ti55 ti56 ti57 ti58 ti59 ti60 ti61 ti62 ti63 ti64 ti65 ti66 ti67 ti68 ti69 ti70 ti71 ti72 ti73 ti74 ti75 ti76 ti77 ti78 ti79 ti80 ti81 ti82 ti83 ti84 ti85 ti86 ti87 ti88 ti89 ti90 ti91 ti92 ti93 ti94 ti95 ti96 ti97 ti98 ti99 ti100 ti101 ti102 ti103 ti104 ti105 ti106 ti107 ti108 ti109 ti110 ti111 ti112 ti113 ti114 ti115 ti116 ti117 ti118 ti119 ti120 ti121 ti122 ti123 ti124 ti125 ti126 ti127 ti128 ti129 ti130 ti131 ti132 ti133 ti134 ti135 ti136 ti137 ti138 ti139 ti140 ti141 ti142 ti143 ti144 ti145 ti146 ti147
def rMatchV (n : Nat) (D F : Rows0) (cols : List Int) (vals : List V) (only : Bool) : AV :=
  if cols.length = vals.length ∧ okC n cols = true then .tup [.sl (encD (srt (colsF (D ++ if only then [] else F) (cols.map Int.toNat) vals))), .int .i64 0] else .tup [.sl [], .int .i64 1]
theorem V2_sortR (D : Rows0) (hl : D.length < 268435456) (hok : ∀ t ∈ D, okR t = true) : V2 29 [.sl (encD D)] s = some (.sl (encD (srt D)), s, []) := by
  have hok2 : (D.all fun t => okR t) = true := List.all_eq_true.2 hok
  simp only [V2, V1, Fns.addP]
  simp [pSrtR, hl, srt_ref]
  exact hok
theorem V2_sameV (u v : V) (hu : u.s.length < LIM) (hv : v.s.length < LIM) : V2 36 [.agg u.cs, .agg v.cs] s = some (.bool (cmpV u v == 0), s, []) := by
  have hd : ∀ v : V, decV v.cs = some v := fun v => rfl
  simp only [V2, V1, V0, F17, F16, Fns.addP]
  simp [pSameV, hd, hu, hv]
set_option maxRecDepth 20000 in
set_option maxHeartbeats 4000000 in
theorem ft_rMatch (hK : 0 < K) (hT : Tens gw) (n : Nat) (N D F : Rows0) (cols : List Int) (vals : List V) (only : Bool) (hn : n ≤ 6) (hlD : D.length < 1000000) (hlF : F.length < 1000000)
    (hrow : ∀ r ∈ D ++ F, r.length = n ∧ r.map bareV = r ∧ okR r = true) (hv : ∀ v ∈ vals, v.s.length < LIM) (hcl : cols.length < 1073741824) :
    FT (env K gw) NoW 24 [.agg (refC n N D F), .sl (ints cols), .sl (vals.map V.cs), .bool only] s (rMatchV n D F cols vals only) s := by
  have hnl : (ints cols).length = cols.length := by simp [ints]
  refine FT.data (fn := Tryd.f24) (V2_ok hK hT) mixed Tryd.func24 (by kernel_rfl) (by rfl) rfl rfl (by simp) rfl fun μ w => ?_
  by_cases hl : cols.length = vals.length
  rotate_left
  · have hb : (((cols.length : Nat) : Int) != ((vals.length : Nat) : Int)) = true := bne_iff_ne.2 (by omega)
    rw [rMatchV, if_neg (fun h => hl h.1)]
    repeat' (first
      | refine WP.t ?_ | refine WP.k ?_ | refine WP.e ?_ | refine Qn ?_ | refine Qr ?_ | refine Qe ?_ | refine Bn ?_ | refine Br ?_ | refine Be ?_ | refine Bx (by decide) ?_
      | (refine RS.nl ?_; refine hk _ _ ?_; clear hk k)
      | ((first | refine RS.st fun A B hA hB => ?_ | refine RQ.st fun A B hA hB => ?_); simp [refC, hb, hnl, onW_t, onW_f, onV_s]; first | ((first | refine hA _ _ _ ?_ ?_ | refine hA _ _ _ ?_ (by first | exact .inl rfl | exact .inr (by decide)) ?_); (focus (simp [refC, hb, hnl] <;> omega)); clear hA hB A B) | (refine hB ?_; clear hA hB A B) | (refine onV_if ?_ ?_; (focus (first | omega | (refine ⟨?_, ?_⟩ <;> omega))); simp only [onV_s]; (first | refine hA _ _ _ ?_ ?_ | refine hA _ _ _ ?_ (by first | exact .inl rfl | exact .inr (by decide)) ?_); (focus (simp [refC, hb, hnl] <;> omega)); clear hA hB A B))
      | (refine RQ.nl ?_; refine hk _ _ ?_; clear hk k)
      | refine WP.sr fun k hk => ?_ | refine WP.r fun k hk => ?_
      | refine WP.sd _ rfl fun k hk => ?_ | refine WP.d _ rfl fun k hk => ?_
      | (refine WP.cc fun A B hA hB => ?_; simp [refC, hb, hnl, onB_t, onB_f]; first | (refine hA ?_; clear hA hB A B) | (refine hB ?_; clear hA hB A B) | (refine onB_if (fun h => hA ?_) (fun h => hB ?_) <;> clear hA hB A B))
      | refine WP.q ?_ | refine WP.b ?_)
    exact ⟨.inr rfl, .tup [.nsl, .int .i64 1], by simp, frz_tup2 .nil (.same _ (.int _ _))⟩
  have hb : (((cols.length : Nat) : Int) != ((vals.length : Nat) : Int)) = false := by simp [hl]
  have hb2 : (((vals.length : Nat) : Int) != ((vals.length : Nat) : Int)) = false := by simp
  have hmF : ∀ e : List AV, (e ∈ encD F) = ∃ r, r ∈ F ∧ [.sl (r.map V.cs)] = e := fun e => by simp [encD, Rw]
  have hmD : ∀ e : List AV, (e ∈ encD D) = ∃ r, r ∈ D ∧ [.sl (r.map V.cs)] = e := fun e => by simp [encD, Rw]
  have helF : (encD F).length = F.length := by simp [encD]
  have helD : (encD D).length = D.length := by simp [encD]
  have hby : D.length * 24 ≤ 140737488355328 := by omega
  have hby2 : (D.length + F.length) * 24 ≤ 140737488355328 := by omega
  have e2 : ∀ (s2 : St) (m : Nat), s2.nx = m → ∀ o, (s2.push o).get m = some o := fun s2 m h o => by rw [← h]; exact St.get_push_same _ _
  have rv : rMatchV n D F cols vals only = if cols.length = vals.length ∧ okC n cols = true then .tup [.sl (encD (srt (colsF (D ++ if only then [] else F) (cols.map Int.toNat) vals))), .int .i64 0] else .tup [.sl [], .int .i64 1] := rfl
  rw [rv]
  obtain ⟨L0, hL0⟩ : ∃ L0, L0 = D ++ if only then [] else F := ⟨_, rfl⟩
  have hrow0 : ∀ r ∈ L0, r.length = n ∧ r.map bareV = r ∧ okR r = true := fun r hr => by
    rw [hL0] at hr
    refine hrow r ?_
    cases only
    · exact hr
    · simp at hr; exact List.mem_append_left _ hr
  have hlen0 : L0.length < 2000000 := by
    rw [hL0]
    cases only <;> simp <;> omega
  rw [← hL0]
  cases only
  all_goals
    simp only [Bool.false_eq_true, if_false, if_true, List.append_nil] at hL0
    repeat' (first
      | refine WP.t ?_ | refine WP.k ?_ | refine WP.e ?_ | refine Qn ?_ | refine Qr ?_ | refine Qe ?_ | refine Bn ?_ | refine Br ?_ | refine Be ?_ | refine Bx (by decide) ?_
      | (refine RS.nl ?_; refine hk _ _ ?_; clear hk k)
      | ((first | refine RS.st fun A B hA hB => ?_ | refine RQ.st fun A B hA hB => ?_); simp [refC, hb, hb2, hnl, hl, hmF, hmD, helF, helD, hby, hby2, St.get_drop, onW_t, onW_f, onV_s]; first | ((first | refine hA _ _ _ ?_ ?_ | refine hA _ _ _ ?_ (by first | exact .inl rfl | exact .inr (by decide)) ?_); (focus (simp [refC, hb, hb2, hnl, hl, hmF, hmD, helF, helD, hby, hby2, St.get_drop] <;> omega)); clear hA hB A B) | (refine hB ?_; clear hA hB A B) | (refine onV_if ?_ ?_; (focus (first | omega | (refine ⟨?_, ?_⟩ <;> omega))); simp only [onV_s]; (first | refine hA _ _ _ ?_ ?_ | refine hA _ _ _ ?_ (by first | exact .inl rfl | exact .inr (by decide)) ?_); (focus (simp [refC, hb, hb2, hnl, hl, hmF, hmD, helF, helD, hby, hby2, St.get_drop] <;> omega)); clear hA hB A B))
      | (refine RQ.nl ?_; refine hk _ _ ?_; clear hk k)
      | refine WP.sr fun k hk => ?_ | refine WP.r fun k hk => ?_
      | refine WP.sd _ rfl fun k hk => ?_ | refine WP.d _ rfl fun k hk => ?_
      | (refine WP.cc fun A B hA hB => ?_; simp [refC, hb, hb2, hnl, hl, hmF, hmD, helF, helD, hby, hby2, St.get_drop, onB_t, onB_f]; first | (refine hA ?_; clear hA hB A B) | (refine hB ?_; clear hA hB A B) | (refine onB_if (fun h => hA ?_) (fun h => hB ?_) <;> clear hA hB A B))
      | refine WP.q ?_ | refine WP.b ?_)
    refine WP_loop (fun m T s' => ∃ (i : Nat) (Lc : Rows0), m + i = cols.length ∧ T.get 1 = .sl (ints cols) ∧ T.get 2 = .sl (vals.map V.cs) ∧ T.get 4 = .ptr s.nx 0 ∧ T.get 11 = .int .i64 i ∧ s.nx + 1 ≤ s'.nx ∧
      s'.get s.nx = some (.var 50 [.int .i64 (n : Int), .sl (encD N), .sl (encD D), .sl (encD F)]) ∧ okC n (cols.take i) = true ∧ Holds (s.nx + 1) T s' 10 Lc ∧
      colsF Lc ((cols.drop i).map Int.toNat) (vals.drop i) = colsF L0 (cols.map Int.toNat) vals ∧ (∀ r ∈ Lc, r ∈ L0) ∧ Lc.length ≤ L0.length) cols.length
      ⟨0, L0, by simp, by simp, by simp, by simp, by simp, by simp, by simp [St.get_push, St.get_drop], by simp [okC],
        by first | (refine .inr (.inr ⟨s.nx + 2, ?_, ?_, ?_, ?_⟩); (focus omega); (focus (simp; done)); (focus (simp [hL0]; done)); (focus (simp [St.get_push, St.get_drop, hL0]; done))) | (refine .inr (.inr ⟨s.nx + 3, ?_, ?_, ?_, ?_⟩); (focus omega); (focus (simp; done)); (focus (simp [hL0]; done)); (focus (simp [St.get_push, St.get_drop, hL0, encD_app]; done))), rfl, fun r h => h, Nat.le_refl _⟩ ?_
    rintro m T s' ⟨i, Lc, hmi, k1, k2, k4, k11, hnx, hbox, hok, hH, hcf, hsub, hll⟩
    obtain ⟨T1, s1, hgh, f10, fo, fn, fg⟩ := hH.gh (n0 := s.nx) (by omega)
    refine WP.gh hgh ?_
    rw [← fo 1 (by decide)] at k1
    rw [← fo 2 (by decide)] at k2
    rw [← fo 4 (by decide)] at k4
    rw [← fo 11 (by decide)] at k11
    rw [← fg s.nx (by omega)] at hbox
    have helc : (encD Lc).length = Lc.length := by simp [encD]
    have hbn : s.nx < s1.nx := by omega
    by_cases hi : i < cols.length
    · have hi2 : i < vals.length := by omega
      have hw : IntKind.i64.wrap ((i : Int) + 1) = (i : Int) + 1 := wrap64 (by omega) (by omega)
      have hlt : ((i : Int) < (cols.length : Int)) := by omega
      have ha3 : ∀ h : i < (ints cols).length, (ints cols)[i]'h = [.int .i64 cols[i]] := fun h => by simp [ints]
      have htk : cols.take (i + 1) = cols.take i ++ [cols[i]] := List.take_succ_eq_append_getElem hi
      have hdc : cols.drop i = cols[i] :: cols.drop (i + 1) := List.drop_eq_getElem_cons hi
      have hdv : vals.drop i = vals[i] :: vals.drop (i + 1) := List.drop_eq_getElem_cons hi2
      have hcm : cols[i] ∈ cols := List.getElem_mem hi
      have hvs := hv vals[i] (List.getElem_mem hi2)
      have hav : ∀ h : i < (vals.map V.cs).length, (vals.map V.cs)[i]'h = vals[i].cs := fun h => by simp
      have hav2 : ∀ h : i < vals.length, vals[i]'h = vals[i] := fun h => rfl
      generalize hcv : cols[i] = c at *
      generalize hvv : vals[i] = v at *
      have hbad : (c < 0 ∨ (n : Int) ≤ c) → ¬ (cols.length = vals.length ∧ okC n cols = true) := fun h hx => by
        have := List.all_eq_true.1 hx.2 c hcm
        simp at this
        omega
      by_cases hc0 : c < 0
      · rw [if_neg (hbad (.inl hc0))]
        repeat' (first
          | refine WP.t ?_ | refine WP.k ?_ | refine WP.e ?_ | refine Qn ?_ | refine Qr ?_ | refine Qe ?_ | refine Bn ?_ | refine Br ?_ | refine Be ?_ | refine Bx (by decide) ?_
          | (refine RS.nl ?_; refine hk _ _ ?_; clear hk k)
          | ((first | refine RS.st fun A B hA hB => ?_ | refine RQ.st fun A B hA hB => ?_); simp [k1, k2, k4, k11, f10, hbox, hbn, hlt, hi, hi2, hl, ha3, hnl, hc0, onW_t, onW_f, onV_s]; first | ((first | refine hA _ _ _ ?_ ?_ | refine hA _ _ _ ?_ (by first | exact .inl rfl | exact .inr (by decide)) ?_); (focus (simp [k1, k2, k4, k11, f10, hbox, hbn, hlt, hi, hi2, hl, ha3, hnl, hc0] <;> omega)); clear hA hB A B) | (refine hB ?_; clear hA hB A B) | (refine onV_if ?_ ?_; (focus (first | omega | (refine ⟨?_, ?_⟩ <;> omega))); simp only [onV_s]; (first | refine hA _ _ _ ?_ ?_ | refine hA _ _ _ ?_ (by first | exact .inl rfl | exact .inr (by decide)) ?_); (focus (simp [k1, k2, k4, k11, f10, hbox, hbn, hlt, hi, hi2, hl, ha3, hnl, hc0] <;> omega)); clear hA hB A B))
          | (refine RQ.nl ?_; refine hk _ _ ?_; clear hk k)
          | refine WP.sr fun k hk => ?_ | refine WP.r fun k hk => ?_
          | refine WP.sd _ rfl fun k hk => ?_ | refine WP.d _ rfl fun k hk => ?_
          | (refine WP.cc fun A B hA hB => ?_; simp [k1, k2, k4, k11, f10, hbox, hbn, hlt, hi, hi2, hl, ha3, hnl, hc0, onB_t, onB_f]; first | (refine hA ?_; clear hA hB A B) | (refine hB ?_; clear hA hB A B) | (refine onB_if (fun h => hA ?_) (fun h => hB ?_) <;> clear hA hB A B))
          | refine WP.q ?_ | refine WP.b ?_)
        exact ⟨.inr rfl, .tup [.nsl, .int .i64 1], by simp, frz_tup2 .nil (.same _ (.int _ _))⟩
      by_cases hc1 : (n : Int) ≤ c
      · rw [if_neg (hbad (.inr hc1))]
        repeat' (first
          | refine WP.t ?_ | refine WP.k ?_ | refine WP.e ?_ | refine Qn ?_ | refine Qr ?_ | refine Qe ?_ | refine Bn ?_ | refine Br ?_ | refine Be ?_ | refine Bx (by decide) ?_
          | (refine RS.nl ?_; refine hk _ _ ?_; clear hk k)
          | ((first | refine RS.st fun A B hA hB => ?_ | refine RQ.st fun A B hA hB => ?_); simp [k1, k2, k4, k11, f10, hbox, hbn, hlt, hi, hi2, hl, ha3, hnl, hc0, hc1, onW_t, onW_f, onV_s]; first | ((first | refine hA _ _ _ ?_ ?_ | refine hA _ _ _ ?_ (by first | exact .inl rfl | exact .inr (by decide)) ?_); (focus (simp [k1, k2, k4, k11, f10, hbox, hbn, hlt, hi, hi2, hl, ha3, hnl, hc0, hc1] <;> omega)); clear hA hB A B) | (refine hB ?_; clear hA hB A B) | (refine onV_if ?_ ?_; (focus (first | omega | (refine ⟨?_, ?_⟩ <;> omega))); simp only [onV_s]; (first | refine hA _ _ _ ?_ ?_ | refine hA _ _ _ ?_ (by first | exact .inl rfl | exact .inr (by decide)) ?_); (focus (simp [k1, k2, k4, k11, f10, hbox, hbn, hlt, hi, hi2, hl, ha3, hnl, hc0, hc1] <;> omega)); clear hA hB A B))
          | (refine RQ.nl ?_; refine hk _ _ ?_; clear hk k)
          | refine WP.sr fun k hk => ?_ | refine WP.r fun k hk => ?_
          | refine WP.sd _ rfl fun k hk => ?_ | refine WP.d _ rfl fun k hk => ?_
          | (refine WP.cc fun A B hA hB => ?_; simp [k1, k2, k4, k11, f10, hbox, hbn, hlt, hi, hi2, hl, ha3, hnl, hc0, hc1, onB_t, onB_f]; first | (refine hA ?_; clear hA hB A B) | (refine hB ?_; clear hA hB A B) | (refine onB_if (fun h => hA ?_) (fun h => hB ?_) <;> clear hA hB A B))
          | refine WP.q ?_ | refine WP.b ?_)
        exact ⟨.inr rfl, .tup [.nsl, .int .i64 1], by simp, frz_tup2 .nil (.same _ (.int _ _))⟩
      repeat' (first
        | refine WP.t ?_ | refine WP.k ?_ | refine WP.e ?_ | refine Qn ?_ | refine Qr ?_ | refine Qe ?_ | refine Bn ?_ | refine Br ?_ | refine Be ?_ | refine Bx (by decide) ?_
        | (refine RS.nl ?_; refine hk _ _ ?_; clear hk k)
        | ((first | refine RS.st fun A B hA hB => ?_ | refine RQ.st fun A B hA hB => ?_); simp [k1, k2, k4, k11, f10, hbox, hbn, hlt, hi, hi2, hl, ha3, hnl, hc0, hc1, onW_t, onW_f, onV_s]; first | ((first | refine hA _ _ _ ?_ ?_ | refine hA _ _ _ ?_ (by first | exact .inl rfl | exact .inr (by decide)) ?_); (focus (simp [k1, k2, k4, k11, f10, hbox, hbn, hlt, hi, hi2, hl, ha3, hnl, hc0, hc1] <;> omega)); clear hA hB A B) | (refine hB ?_; clear hA hB A B) | (refine onV_if ?_ ?_; (focus (first | omega | (refine ⟨?_, ?_⟩ <;> omega))); simp only [onV_s]; (first | refine hA _ _ _ ?_ ?_ | refine hA _ _ _ ?_ (by first | exact .inl rfl | exact .inr (by decide)) ?_); (focus (simp [k1, k2, k4, k11, f10, hbox, hbn, hlt, hi, hi2, hl, ha3, hnl, hc0, hc1] <;> omega)); clear hA hB A B))
        | (refine RQ.nl ?_; refine hk _ _ ?_; clear hk k)
        | refine WP.sr fun k hk => ?_ | refine WP.r fun k hk => ?_
        | refine WP.sd _ rfl fun k hk => ?_ | refine WP.d _ rfl fun k hk => ?_
        | (refine WP.cc fun A B hA hB => ?_; simp [k1, k2, k4, k11, f10, hbox, hbn, hlt, hi, hi2, hl, ha3, hnl, hc0, hc1, onB_t, onB_f]; first | (refine hA ?_; clear hA hB A B) | (refine hB ?_; clear hA hB A B) | (refine onB_if (fun h => hA ?_) (fun h => hB ?_) <;> clear hA hB A B))
        | refine WP.q ?_ | refine WP.b ?_)
      obtain ⟨cn, rfl⟩ : ∃ cn : Nat, c = (cn : Int) := ⟨c.toNat, by omega⟩
      have hcn : cn < n := by omega
      refine WP_loop (fun m2 T s' => ∃ kk : Nat, m2 + kk = Lc.length ∧ T.get 1 = .sl (ints cols) ∧ T.get 2 = .sl (vals.map V.cs) ∧ T.get 4 = .ptr s.nx 0 ∧ T.get 10 = .sl (encD Lc) ∧ T.get 11 = .int .i64 i ∧ T.get 13 = .int .i64 kk ∧ s.nx + 1 ≤ s'.nx ∧
        s'.get s.nx = some (.var 50 [.int .i64 (n : Int), .sl (encD N), .sl (encD D), .sl (encD F)]) ∧
        ((colF (Lc.take kk) cn v = [] ∧ T.get 12 = .nsl) ∨ (colF (Lc.take kk) cn v ≠ [] ∧ ∃ q, s.nx + 1 ≤ q ∧ q < s'.nx ∧ T.get 12 = .ls q 0 (colF (Lc.take kk) cn v).length ∧ s'.get q = some (.row 1 (true, 33) (encD (colF (Lc.take kk) cn v)))))) Lc.length
        ⟨0, by simp, by simp [k1], by simp [k2], by simp [k4], by simp [f10], by simp [k11], by simp, by omega, hbox, .inl ⟨by simp [colF], by simp⟩⟩ ?_
      rintro m2 T s2 ⟨kk, hmk, g1, g2, g4, g10, g11, g13, hnx2, hbox2, hB⟩
      by_cases hkk : kk < Lc.length
      · have hw2 : IntKind.i64.wrap ((kk : Int) + 1) = (kk : Int) + 1 := wrap64 (by omega) (by omega)
        have hltk : ((kk : Int) < (Lc.length : Int)) := by omega
        have htk2 : Lc.take (kk + 1) = Lc.take kk ++ [Lc[kk]] := List.take_succ_eq_append_getElem hkk
        have hft : colF (Lc.take (kk + 1)) cn v = colF (Lc.take kk) cn v ++ colF [Lc[kk]] cn v := by rw [htk2, colF, colF, colF, List.filter_append]
        have hmr := hrow0 _ (hsub Lc[kk] (List.getElem_mem hkk))
        have hr3 : ∀ h : kk < (encD Lc).length, (encD Lc)[kk]'h = [.sl (Lc[kk].map V.cs)] := fun h => by simp [encD, Rw]
        generalize hrv : Lc[kk] = r at *
        obtain ⟨hr1, hr2, hr4⟩ := hmr
        have hcr : cn < r.length := by omega
        have hri : ((cn : Int) < (r.length : Int)) := by omega
        have hrc : ∀ h : cn < (r.map V.cs).length, (r.map V.cs)[cn]'h = r[cn].cs := fun h => by simp
        have hrc2 : ∀ h : cn < r.length, r[cn]'h = r[cn] := fun h => rfl
        have hru : r[cn]? = some r[cn] := List.getElem?_eq_getElem hcr
        have hbu : bareV r[cn] = r[cn] := by
          have := congrArg (·[cn]?) hr2
          simp only [List.getElem?_map, hru, Option.map_some, Option.some.injEq] at this
          exact this
        have hus : r[cn].s.length < LIM := by
          simp only [okR, Bool.and_eq_true, decide_eq_true_eq, List.all_eq_true] at hr4
          exact hr4.2 _ (List.getElem_mem hcr)
        generalize hu : r[cn] = u at *
        have hsm := fun s3 : St => V2_sameV (s := s3) u v hus hvs
        have hul : u.cs.length = 3 := rfl
        have hvl : v.cs.length = 3 := rfl
        have hut : List.take 3 u.cs = u.cs := rfl
        have hvt : List.take 3 v.cs = v.cs := rfl
        have huo : u.cs.all AV.one = true := rfl
        have hvo : v.cs.all AV.one = true := rfl
        have hb1 : ∀ (a : V) (x : AV), (x ∈ a.cs) = (x = .bool a.b ∨ x = .str a.s ∨ x = .int .i64 a.n) := fun a x => by simp [V.cs]
        have hcfl : (colF (Lc.take kk) cn v).length ≤ Lc.length := by
          have h1 : (colF (Lc.take kk) cn v).length ≤ (Lc.take kk).length := List.length_filter_le _ _
          have h2 : (Lc.take kk).length ≤ Lc.length := by simp; omega
          omega
        by_cases hz : cmpV u v = 0
        · have hzb : (cmpV u v == 0) = true := by simp [hz]
          have hyes : colF [r] cn v = [r] := by
            have : r[cn]? = some (bareV v) := by rw [hru, ← hbu, cmpV_bare.1 hz]
            simp [colF, this]
          rw [hyes] at hft
          rcases hB with ⟨h0, g12⟩ | ⟨h0, q, q1, q2, g12, q3⟩
          · skip
            repeat' (first
              | refine WP.t ?_ | refine WP.k ?_ | refine WP.e ?_ | refine Qn ?_ | refine Qr ?_ | refine Qe ?_ | refine Bn ?_ | refine Br ?_ | refine Be ?_ | refine Bx (by decide) ?_
              | (refine RS.nl ?_; refine hk _ _ ?_; clear hk k)
              | ((first | refine RS.st fun A B hA hB => ?_ | refine RQ.st fun A B hA hB => ?_); simp [g1, g2, g4, g10, g11, g12, g13, helc, hltk, hkk, hw2, hr3, hcr, hri, hrc, hrc2, hsm, hzb, ha3, hi, hi2, hlt, hl, hnl, hav, hav2, hvv, hu, hul, hvl, hut, hvt, hb1, onW_t, onW_f, onV_s]; first | ((first | refine hA _ _ _ ?_ ?_ | refine hA _ _ _ ?_ (by first | exact .inl rfl | exact .inr (by decide)) ?_); (focus (simp [g1, g2, g4, g10, g11, g12, g13, helc, hltk, hkk, hw2, hr3, hcr, hri, hrc, hrc2, hsm, hzb, ha3, hi, hi2, hlt, hl, hnl, hav, hav2, hvv, hu, hul, hvl, hut, hvt, hb1] <;> omega)); clear hA hB A B) | (refine hB ?_; clear hA hB A B) | (refine onV_if ?_ ?_; (focus (first | omega | (refine ⟨?_, ?_⟩ <;> omega))); simp only [onV_s]; (first | refine hA _ _ _ ?_ ?_ | refine hA _ _ _ ?_ (by first | exact .inl rfl | exact .inr (by decide)) ?_); (focus (simp [g1, g2, g4, g10, g11, g12, g13, helc, hltk, hkk, hw2, hr3, hcr, hri, hrc, hrc2, hsm, hzb, ha3, hi, hi2, hlt, hl, hnl, hav, hav2, hvv, hu, hul, hvl, hut, hvt, hb1] <;> omega)); clear hA hB A B))
              | (refine RQ.nl ?_; refine hk _ _ ?_; clear hk k)
              | refine WP.sr fun k hk => ?_ | refine WP.r fun k hk => ?_
              | refine WP.sd _ rfl fun k hk => ?_ | refine WP.d _ rfl fun k hk => ?_
              | (refine WP.cc fun A B hA hB => ?_; simp [g1, g2, g4, g10, g11, g12, g13, helc, hltk, hkk, hw2, hr3, hcr, hri, hrc, hrc2, hsm, hzb, ha3, hi, hi2, hlt, hl, hnl, hav, hav2, hvv, hu, hul, hvl, hut, hvt, hb1, onB_t, onB_f]; first | (refine hA ?_; clear hA hB A B) | (refine hB ?_; clear hA hB A B) | (refine onB_if (fun h => hA ?_) (fun h => hB ?_) <;> clear hA hB A B))
              | refine WP.q ?_ | refine WP.b ?_)
            refine ⟨m2 - 1, by omega, kk + 1, by omega, by simp [g1], by simp [g2], by simp [g4], by simp [g10], by simp [g11], by simp, by simp; omega, ?_, ?_⟩
            · have : ¬ s.nx = s2.nx := by omega
              simp [St.get_push, this, hbox2]
            · rw [hft, h0]
              exact .inr ⟨by simp, s2.nx, by omega, by simp, by simp, by simp [encD, Rw]⟩
          · have n1 : ¬ q = s2.nx := by omega
            have hln : (encD (colF (Lc.take kk) cn v)).length = (colF (Lc.take kk) cn v).length := by simp [encD]
            generalize hO : colF (Lc.take kk) cn v = O at *
            have htl : List.take O.length (encD O) = encD O := List.take_of_length_le (by omega)
            have hby4 : (O.length + 1) * 24 ≤ 140737488355328 := by omega
            have e3 : ∀ s3 : St, s3.nx = s2.nx → ∀ o, (s3.push o).get s2.nx = some o := fun s3 h o => by rw [← h]; exact St.get_push_same _ _
            have q4 : s.nx ≤ q := by omega
            repeat' (first
              | refine WP.t ?_ | refine WP.k ?_ | refine WP.e ?_ | refine Qn ?_ | refine Qr ?_ | refine Qe ?_ | refine Bn ?_ | refine Br ?_ | refine Be ?_ | refine Bx (by decide) ?_
              | (refine RS.nl ?_; refine hk _ _ ?_; clear hk k)
              | ((first | refine RS.st fun A B hA hB => ?_ | refine RQ.st fun A B hA hB => ?_); simp [g1, g2, g4, g10, g11, g12, g13, helc, hltk, hkk, hw2, hr3, hcr, hri, hrc, hrc2, hsm, hzb, ha3, hi, hi2, hlt, hl, hnl, hav, hav2, hvv, hu, hul, hvl, hut, hvt, hb1, q1, q2, q3, q4, n1, hln, htl, hby4, onW_t, onW_f, onV_s]; first | ((first | refine hA _ _ _ ?_ ?_ | refine hA _ _ _ ?_ (by first | exact .inl rfl | exact .inr (by decide)) ?_); (focus (simp [g1, g2, g4, g10, g11, g12, g13, helc, hltk, hkk, hw2, hr3, hcr, hri, hrc, hrc2, hsm, hzb, ha3, hi, hi2, hlt, hl, hnl, hav, hav2, hvv, hu, hul, hvl, hut, hvt, hb1, q1, q2, q3, q4, n1, hln, htl, hby4] <;> omega)); clear hA hB A B) | (refine hB ?_; clear hA hB A B) | (refine onV_if ?_ ?_; (focus (first | omega | (refine ⟨?_, ?_⟩ <;> omega))); simp only [onV_s]; (first | refine hA _ _ _ ?_ ?_ | refine hA _ _ _ ?_ (by first | exact .inl rfl | exact .inr (by decide)) ?_); (focus (simp [g1, g2, g4, g10, g11, g12, g13, helc, hltk, hkk, hw2, hr3, hcr, hri, hrc, hrc2, hsm, hzb, ha3, hi, hi2, hlt, hl, hnl, hav, hav2, hvv, hu, hul, hvl, hut, hvt, hb1, q1, q2, q3, q4, n1, hln, htl, hby4] <;> omega)); clear hA hB A B))
              | (refine RQ.nl ?_; refine hk _ _ ?_; clear hk k)
              | refine WP.sr fun k hk => ?_ | refine WP.r fun k hk => ?_
              | refine WP.sd _ rfl fun k hk => ?_ | refine WP.d _ rfl fun k hk => ?_
              | (refine WP.cc fun A B hA hB => ?_; simp [g1, g2, g4, g10, g11, g12, g13, helc, hltk, hkk, hw2, hr3, hcr, hri, hrc, hrc2, hsm, hzb, ha3, hi, hi2, hlt, hl, hnl, hav, hav2, hvv, hu, hul, hvl, hut, hvt, hb1, q1, q2, q3, q4, n1, hln, htl, hby4, onB_t, onB_f]; first | (refine hA ?_; clear hA hB A B) | (refine hB ?_; clear hA hB A B) | (refine onB_if (fun h => hA ?_) (fun h => hB ?_) <;> clear hA hB A B))
              | refine WP.q ?_ | refine WP.b ?_)
            refine ⟨m2 - 1, by omega, kk + 1, by omega, by simp [g1], by simp [g2], by simp [g4], by simp [g10], by simp [g11], by simp, by simp; omega, ?_, ?_⟩
            · have z1 : ¬ s.nx = s2.nx := by omega
              have z2 : ¬ s.nx = q := by omega
              simp [St.get_push, St.get_drop, z1, z2, hbox2]
            · rw [hft]
              exact .inr ⟨by simp, s2.nx, by omega, by simp, by simp, by rw [e3 _ (by simp)]; simp [encD, Rw]⟩
        · have hzb : (cmpV u v == 0) = false := beq_eq_false_iff_ne.2 hz
          have hno : colF [r] cn v = [] := by
            have : ¬ r[cn]? = some (bareV v) := fun h => hz (cmpV_bare.2 (by rw [hru] at h; rw [hbu]; exact Option.some.inj h))
            simp [colF, this]
          rw [hno, List.append_nil] at hft
          repeat' (first
            | refine WP.t ?_ | refine WP.k ?_ | refine WP.e ?_ | refine Qn ?_ | refine Qr ?_ | refine Qe ?_ | refine Bn ?_ | refine Br ?_ | refine Be ?_ | refine Bx (by decide) ?_
            | (refine RS.nl ?_; refine hk _ _ ?_; clear hk k)
            | ((first | refine RS.st fun A B hA hB => ?_ | refine RQ.st fun A B hA hB => ?_); simp [g1, g2, g4, g10, g11, g13, helc, hltk, hkk, hw2, hr3, hcr, hri, hrc, hrc2, hsm, hzb, ha3, hi, hi2, hlt, hl, hnl, hav, hav2, hvv, hu, hul, hvl, hut, hvt, hb1, onW_t, onW_f, onV_s]; first | ((first | refine hA _ _ _ ?_ ?_ | refine hA _ _ _ ?_ (by first | exact .inl rfl | exact .inr (by decide)) ?_); (focus (simp [g1, g2, g4, g10, g11, g13, helc, hltk, hkk, hw2, hr3, hcr, hri, hrc, hrc2, hsm, hzb, ha3, hi, hi2, hlt, hl, hnl, hav, hav2, hvv, hu, hul, hvl, hut, hvt, hb1] <;> omega)); clear hA hB A B) | (refine hB ?_; clear hA hB A B) | (refine onV_if ?_ ?_; (focus (first | omega | (refine ⟨?_, ?_⟩ <;> omega))); simp only [onV_s]; (first | refine hA _ _ _ ?_ ?_ | refine hA _ _ _ ?_ (by first | exact .inl rfl | exact .inr (by decide)) ?_); (focus (simp [g1, g2, g4, g10, g11, g13, helc, hltk, hkk, hw2, hr3, hcr, hri, hrc, hrc2, hsm, hzb, ha3, hi, hi2, hlt, hl, hnl, hav, hav2, hvv, hu, hul, hvl, hut, hvt, hb1] <;> omega)); clear hA hB A B))
            | (refine RQ.nl ?_; refine hk _ _ ?_; clear hk k)
            | refine WP.sr fun k hk => ?_ | refine WP.r fun k hk => ?_
            | refine WP.sd _ rfl fun k hk => ?_ | refine WP.d _ rfl fun k hk => ?_
            | (refine WP.cc fun A B hA hB => ?_; simp [g1, g2, g4, g10, g11, g13, helc, hltk, hkk, hw2, hr3, hcr, hri, hrc, hrc2, hsm, hzb, ha3, hi, hi2, hlt, hl, hnl, hav, hav2, hvv, hu, hul, hvl, hut, hvt, hb1, onB_t, onB_f]; first | (refine hA ?_; clear hA hB A B) | (refine hB ?_; clear hA hB A B) | (refine onB_if (fun h => hA ?_) (fun h => hB ?_) <;> clear hA hB A B))
            | refine WP.q ?_ | refine WP.b ?_)
          refine ⟨m2 - 1, by omega, kk + 1, by omega, by simp [g1], by simp [g2], by simp [g4], by simp [g10], by simp [g11], by simp, by omega, hbox2, ?_⟩
          rw [hft]
          rcases hB with ⟨h0, g12⟩ | ⟨h0, q, q1, q2, g12, q3⟩
          · exact .inl ⟨h0, by simp [g12]⟩
          · exact .inr ⟨h0, q, q1, q2, by simp [g12], q3⟩
      · have hltk : ¬ ((kk : Int) < (Lc.length : Int)) := by omega
        have hek : Lc.take kk = Lc := List.take_of_length_le (by omega)
        rw [hek] at hB
        repeat' (first
          | refine WP.t ?_ | refine WP.k ?_ | refine WP.e ?_ | refine Qn ?_ | refine Qr ?_ | refine Qe ?_ | refine Bn ?_ | refine Br ?_ | refine Be ?_ | refine Bx (by decide) ?_
          | (refine RS.nl ?_; refine hk _ _ ?_; clear hk k)
          | ((first | refine RS.st fun A B hA hB => ?_ | refine RQ.st fun A B hA hB => ?_); simp [g1, g2, g4, g10, g11, g13, helc, hltk, hkk, hw, onW_t, onW_f, onV_s]; first | ((first | refine hA _ _ _ ?_ ?_ | refine hA _ _ _ ?_ (by first | exact .inl rfl | exact .inr (by decide)) ?_); (focus (simp [g1, g2, g4, g10, g11, g13, helc, hltk, hkk, hw] <;> omega)); clear hA hB A B) | (refine hB ?_; clear hA hB A B) | (refine onV_if ?_ ?_; (focus (first | omega | (refine ⟨?_, ?_⟩ <;> omega))); simp only [onV_s]; (first | refine hA _ _ _ ?_ ?_ | refine hA _ _ _ ?_ (by first | exact .inl rfl | exact .inr (by decide)) ?_); (focus (simp [g1, g2, g4, g10, g11, g13, helc, hltk, hkk, hw] <;> omega)); clear hA hB A B))
          | (refine RQ.nl ?_; refine hk _ _ ?_; clear hk k)
          | refine WP.sr fun k hk => ?_ | refine WP.r fun k hk => ?_
          | refine WP.sd _ rfl fun k hk => ?_ | refine WP.d _ rfl fun k hk => ?_
          | (refine WP.cc fun A B hA hB => ?_; simp [g1, g2, g4, g10, g11, g13, helc, hltk, hkk, hw, onB_t, onB_f]; first | (refine hA ?_; clear hA hB A B) | (refine hB ?_; clear hA hB A B) | (refine onB_if (fun h => hA ?_) (fun h => hB ?_) <;> clear hA hB A B))
          | refine WP.q ?_ | refine WP.b ?_)
        refine ⟨m - 1, by omega, i + 1, colF Lc cn v, by omega, by simp [g1], by simp [g2], by simp [g4], by simp, hnx2, hbox2, ?_, ?_, ?_, fun r hr => hsub r (List.mem_filter.1 hr).1, ?_⟩
        · rw [htk, okC, List.all_append, Bool.and_eq_true]
          exact ⟨hok, by simp; omega⟩
        · rcases hB with ⟨h0, g12⟩ | ⟨h0, q, q1, q2, g12, q3⟩
          · exact .inr (.inl ⟨by simp [g12], h0⟩)
          · exact .inr (.inr ⟨q, q1, q2, by simp [g12], q3⟩)
        · rw [← hcf, hdc, hdv]
          simp [colsF]
        · have h1 : (colF Lc cn v).length ≤ Lc.length := List.length_filter_le _ _
          omega
    · have hlt : ¬ ((i : Int) < (cols.length : Int)) := by omega
      have hlt2 : ¬ ((i : Int) < (vals.length : Int)) := by omega
      have hokc : okC n cols = true := by rw [List.take_of_length_le (by omega)] at hok; exact hok
      rw [if_pos ⟨hl, hokc⟩]
      rw [List.drop_eq_nil_of_le (by omega)] at hcf
      have hfin : colsF L0 (cols.map Int.toNat) vals = Lc := by rw [← hcf]; rfl
      rw [hfin]
      have hso := fun s2 : St => V2_sortR (s := s2) Lc (by omega) fun t ht => (hrow0 t (hsub t ht)).2.2
      repeat' (first
        | refine WP.t ?_ | refine WP.k ?_ | refine WP.e ?_ | refine Qn ?_ | refine Qr ?_ | refine Qe ?_ | refine Bn ?_ | refine Br ?_ | refine Be ?_ | refine Bx (by decide) ?_
        | (refine RS.nl ?_; refine hk _ _ ?_; clear hk k)
        | ((first | refine RS.st fun A B hA hB => ?_ | refine RQ.st fun A B hA hB => ?_); simp [k1, k2, k4, k11, f10, hlt, hlt2, hi, hl, hnl, hso, onW_t, onW_f, onV_s]; first | ((first | refine hA _ _ _ ?_ ?_ | refine hA _ _ _ ?_ (by first | exact .inl rfl | exact .inr (by decide)) ?_); (focus (simp [k1, k2, k4, k11, f10, hlt, hlt2, hi, hl, hnl, hso] <;> omega)); clear hA hB A B) | (refine hB ?_; clear hA hB A B) | (refine onV_if ?_ ?_; (focus (first | omega | (refine ⟨?_, ?_⟩ <;> omega))); simp only [onV_s]; (first | refine hA _ _ _ ?_ ?_ | refine hA _ _ _ ?_ (by first | exact .inl rfl | exact .inr (by decide)) ?_); (focus (simp [k1, k2, k4, k11, f10, hlt, hlt2, hi, hl, hnl, hso] <;> omega)); clear hA hB A B))
        | (refine RQ.nl ?_; refine hk _ _ ?_; clear hk k)
        | refine WP.sr fun k hk => ?_ | refine WP.r fun k hk => ?_
        | refine WP.sd _ rfl fun k hk => ?_ | refine WP.d _ rfl fun k hk => ?_
        | (refine WP.cc fun A B hA hB => ?_; simp [k1, k2, k4, k11, f10, hlt, hlt2, hi, hl, hnl, hso, onB_t, onB_f]; first | (refine hA ?_; clear hA hB A B) | (refine hB ?_; clear hA hB A B) | (refine onB_if (fun h => hA ?_) (fun h => hB ?_) <;> clear hA hB A B))
        | refine WP.q ?_ | refine WP.b ?_)
      exact ⟨.inr rfl, .tup [.sl (encD (srt Lc)), .int .i64 0], by simp, frz_tup2 (frz_D _) (.same _ (.int _ _))⟩
end
end Go.Am
