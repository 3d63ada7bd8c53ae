/- Part of the proof: abstract values over the given model of Go (L1). Conditions: none of its own; see the statement in the seat's Rows text. -/
import Derived.Test.YtcahihhgikmloaaDoorAmPb
set_option linter.unusedSimpArgs false
set_option linter.unusedVariables false
set_option linter.unusedSectionVars false
namespace Go.Am
open Go.Proofs
def filledQ : List AV → St → AV → St → List Nat → Prop := fun xs s r s' ids => ∀ L, xs = [.sl (pairs L)] → ids = [] ∧ Eff [] s s' ∧ ∃ rid l, r = .ptr rid 0 ∧ RelP s' l rid 2 (fillR (L.take 40)) ∧ ∀ i ∈ l, s.nx ≤ i ∧ i < s'.nx
theorem pairs_inj : ∀ {t u : List (V × V)}, pairs t = pairs u → t = u
  | [], [], _ => rfl
  | [], u :: us, h => by simp [pairs] at h
  | v :: t, [], h => by simp [pairs] at h
  | v :: t, u :: us, h => by
    simp only [pairs, List.map_cons, List.cons.injEq] at h
    obtain ⟨h1, h2⟩ := List.append_inj h.1 rfl
    rw [pairs_inj (t := t) (u := us) h.2, show v = u from Prod.ext (cs_inj h1) (cs_inj h2)]
section
variable {K : Nat} {gw : World} {s : St}
attribute [local simp] awanted xop zOf zrow aop ev T0 Slots.put Slots.set Slots.get awr WOk AV.may ofConst abinop aint isConst St.get_push St.get_put St.live AV.fit AV.cells AV.one fieldOf afieldAddr aload ofCells astore splice May eqres env_ti FinP FinZ FinW ares aresL ares1 Fns.addP Fns.add Fns.a0 Fns.a1 Fns.a2 Fns.a3 Fns.a4 abuiltin alenOk alen aindex elemOfT elemId abuildSlice afill chunks ard aappend isSS AV.isStr aminmax placesOf abuild afield aidx isStrD isStrDesc astrop aslice asliceOk abound arange anext aextract aunop aeq AV.ck avseq aveq aconv aconvert onB_t onB_f List.range_succ ti0 ti1 ti2 ti3 ti4 ti5 ti6 ti7 ti8 ti9 ti10 ti11 ti12 ti13 ti14 ti15 ti16 ti17 ti18 ti19 ti20 ti21 ti22 ti23 ti24 ti25 ti26 ti27 ti28 ti29 ti30 ti31 ti32 ti33 ti34 ti35 ti36 ti37 ti38 ti39 ti40 ti41 ti42 ti43 ti44 ti45 ti46 ti47 ti48 ti49 ti50 ti51 ti52 ti53 ti54 ti55 ti56 ti57 ti58 ti59 ti60 ti61 ti62 ti63 ti64 ti65 ti66 ti67 ti68 ti69 ti70 ti71 ti72 ti73 ti74 ti75 ti76 ti77 ti78 ti79 ti80 ti81 ti82 ti83 ti84 ti85 ti86 ti87 ti88 ti89 ti90 ti91 ti92 ti93 ti94 ti95 ti96 ti97 ti98 ti99 ti100 ti101 ti102 ti103 ti104 ti105 ti106 ti107 ti108 ti109 ti110 ti111 ti112 ti113 ti114 ti115 ti116 ti117 ti118 ti119 ti120 ti121 ti122 ti123 ti124 ti125 ti126 ti127 ti128 ti129 ti130 ti131 ti132 ti133 ti134 ti135 ti136 ti137 ti138 ti139 ti140 ti141 ti142 ti143 ti144 ti145 ti146 ti147
noncomputable def W1 (K : Nat) (gw : World) : Fns := ((Z K gw V2).a0 9 (.bool true)).ch (env K gw) 10 filledQ
theorem W1_ok (hK : 0 < K) (hT : Tens gw) : FOk (env K gw) (W1 K gw) := ((Z_ok (V2_ok hK hT)).a0 fun s => ft_shown hK hT).ch
theorem W1_Z {f : FuncId} {xs : List AV} (h : f ∉ [10, 9]) : W1 K gw f xs s = Z K gw V2 f xs s := by
  simp only [List.mem_cons, List.mem_nil_iff, or_false, not_or] at h
  unfold W1
  rw [Fns.ch_other h.1, Fns.a0, Fns.addP, if_neg h.2]
theorem W1_shown : W1 K gw 9 [] s = some (.bool true, s, []) := by
  unfold W1
  rw [Fns.ch_other (by decide), Fns.a0, Fns.addP, if_pos rfl]
  rfl
theorem W1_filled (hK : 0 < K) (hT : Tens gw) (L : List (V × V)) (hL : L.length < 1073741824) :
    ∃ s' rid l, W1 K gw 10 [.sl (pairs L)] s = some (.ptr rid 0, s', []) ∧ Eff [] s s' ∧ RelP s' l rid 2 (fillR (L.take 40)) ∧ ∀ i ∈ l, s.nx ≤ i ∧ i < s'.nx := by
  obtain ⟨r, s', h1, h2, _, h3⟩ := ft_filled (K := K) (gw := gw) (s := s) hK hT (V2_ok hK hT) L hL
  have hp : filledQ [.sl (pairs L)] s r s' [] := by
    intro L' he
    simp only [List.cons.injEq, AV.sl.injEq, and_true] at he
    obtain rfl := pairs_inj he
    exact ⟨rfl, h2, h3⟩
  obtain ⟨r, s', l, h5, h6⟩ := Fns.ch_some (P := filledQ) (F := (Z K gw V2).a0 9 (.bool true)) h1 hp
  obtain ⟨rfl, h7, rid, l, rfl, h8, h9⟩ := h6 L rfl
  exact ⟨s', rid, l, h5, h7, h8, h9⟩
theorem W1_rows (D : Rows0) (hl : D.length < 268435456) (hok : ∀ t ∈ D, t.length < 1000) : W1 K gw 14 [.sl (encD D), .sl (encD D)] s = some (.bool true, s, []) := by
  rw [W1_Z (by decide), Z_base (by decide)]
  have hok2 : okB D = true := okB_iff.2 fun t h => by have := hok t h; simp only [LIM]; omega
  simp only [V2, Fns.addP]
  simp [pRowsE, hl, hok2]
/-! ### RelationArity -/
def pNp1 (r : AV) : List AV → Option AV
  | [.np] => some r
  | _ => none
def pNp2 (r : AV) : List AV → Option AV
  | [.np, _] => some r
  | _ => none
def pNpM : List AV → Option AV
  | [.np, .nsl, .nsl, .bool b] => some (.tup [.sl [], .int .i64 1])
  | _ => none
def pNewB : List AV → Option AV
  | [.int .i64 n] => if n < 0 ∨ 6 < n then some .np else none
  | _ => none
noncomputable def N1 : Fns := (((((((F0.addP 11 pNewB).addP 12 (pNp2 (.tup [.bool false, .int .i64 1]))).addP 17 (pNp2 (.bool false))).addP 18 (pNp1 (.bool false))).addP 13 (pNp1 (.int .i64 0))).addP 15 (pNp1 (.sl []))).addP 28 (pNp1 (.sl []))).addP 19 pNpM
theorem N1_ok : FOk (env K gw) N1 := by
  have e1 : ∀ {F : Fns} {f : FuncId} {r : AV}, FOk (env K gw) F → (∀ s, FT (env K gw) NoW f [.np] s r s) → FOk (env K gw) (F.addP f (pNp1 r)) := fun hF h => by
    refine hF.addP fun xs s r h2 => ?_
    unfold pNp1 at h2
    split at h2
    · cases h2; exact h s
    · cases h2
  have e2 : ∀ {F : Fns} {f : FuncId} {r : AV}, FOk (env K gw) F → (∀ s x, FT (env K gw) NoW f [.np, x] s r s) → FOk (env K gw) (F.addP f (pNp2 r)) := fun hF h => by
    refine hF.addP fun xs s r h2 => ?_
    unfold pNp2 at h2
    split at h2
    · cases h2; exact h s _
    · cases h2
  refine (e1 (e1 (e1 (e1 (e2 (e2 (F0_ok.addP fun xs s r h => ?_) fun s x => ft_Add0 x) fun s x => ft_Has0 x) fun s => ft_Turn0) fun s => ft_Len0) fun s => ft_All0) fun s => ft_Delta0).addP fun xs s r h => ?_
  · unfold pNewB at h
    split at h
    · split at h
      · rename_i hc; cases h; exact ft_RNew0 _ hc
      · cases h
    · cases h
  · unfold pNpM at h
    split at h
    · rename_i b
      cases h
      refine (ft_Match0 (.sl []) (.sl []) (.bool b) ⟨_, rfl⟩ ⟨_, rfl⟩).args fun μ w vs hv => ?_
      obtain ⟨hn, hg⟩ := hv
      have hx : slOr .nsl [] := .inr ⟨rfl, rfl⟩
      refine ⟨hn, fun i a v ha hv => ?_⟩
      match i, ha with
      | 0, ha => simp at ha; subst ha; exact hg 0 _ v rfl hv
      | 1, ha => simp at ha; subst ha; exact hx.vr (hg 1 _ v rfl hv)
      | 2, ha => simp at ha; subst ha; exact hx.vr (hg 2 _ v rfl hv)
      | 3, ha => simp at ha; subst ha; exact hg 3 _ v rfl hv
    · cases h
set_option maxRecDepth 20000 in
theorem ft_Arity (hK : 0 < K) (hT : Tens gw) (n : Int) (t : List V) (hl : t.length < 1073741824) : FT (env K gw) NoW 8 [.int .i64 n, .sl (t.map V.cs)] s (.bool true) s := by
  by_cases hn : n < 0 ∨ 6 < n
  · refine FT.pure (fn := Tryd.f8) (N1_ok.a0 fun s => ft_shown hK hT) mixed Tryd.func8 (by kernel_rfl) (by rfl) rfl rfl (by simp) (by kernel_rfl) fun μ w => ?_
    by_cases h0 : n < 0
    · skip
      repeat' (first
        | refine WP.t ?_ | refine WP.k ?_ | refine WP.e ?_ | refine Qn ?_ | refine Qr ?_ | refine Qe ?_ | refine Bn ?_ | refine Br ?_ | refine Be ?_ | refine Bx (by decide) ?_
        | (refine RS.nl ?_; refine hk _ _ ?_; clear hk k)
        | ((first | refine RS.st fun A B hA hB => ?_ | refine RQ.st fun A B hA hB => ?_); simp [N1, pNewB, pNp1, pNp2, pNpM, hn, h0, onW_t, onW_f, onV_s]; first | ((first | refine hA _ _ _ ?_ ?_ | refine hA _ _ _ ?_ (by first | exact .inl rfl | exact .inr (by decide)) ?_); (focus (simp [N1, pNewB, pNp1, pNp2, pNpM, hn, h0] <;> omega)); clear hA hB A B) | (refine hB ?_; clear hA hB A B) | (refine onV_if ?_ ?_; (focus (first | omega | (refine ⟨?_, ?_⟩ <;> omega))); simp only [onV_s]; (first | refine hA _ _ _ ?_ ?_ | refine hA _ _ _ ?_ (by first | exact .inl rfl | exact .inr (by decide)) ?_); (focus (simp [N1, pNewB, pNp1, pNp2, pNpM, hn, h0] <;> omega)); clear hA hB A B))
        | (refine RQ.nl ?_; refine hk _ _ ?_; clear hk k)
        | refine WP.sr fun k hk => ?_ | refine WP.r fun k hk => ?_
        | refine WP.sd _ rfl fun k hk => ?_ | refine WP.d _ rfl fun k hk => ?_
        | (refine WP.cc fun A B hA hB => ?_; simp [N1, pNewB, pNp1, pNp2, pNpM, hn, h0, onB_t, onB_f]; first | (refine hA ?_; clear hA hB A B) | (refine hB ?_; clear hA hB A B) | (refine onB_if (fun h => hA ?_) (fun h => hB ?_) <;> clear hA hB A B))
        | refine WP.q ?_ | refine WP.b ?_)
      simp
    · have h1 : 6 < n := by omega
      repeat' (first
        | refine WP.t ?_ | refine WP.k ?_ | refine WP.e ?_ | refine Qn ?_ | refine Qr ?_ | refine Qe ?_ | refine Bn ?_ | refine Br ?_ | refine Be ?_ | refine Bx (by decide) ?_
        | (refine RS.nl ?_; refine hk _ _ ?_; clear hk k)
        | ((first | refine RS.st fun A B hA hB => ?_ | refine RQ.st fun A B hA hB => ?_); simp [N1, pNewB, pNp1, pNp2, pNpM, hn, h0, h1, onW_t, onW_f, onV_s]; first | ((first | refine hA _ _ _ ?_ ?_ | refine hA _ _ _ ?_ (by first | exact .inl rfl | exact .inr (by decide)) ?_); (focus (simp [N1, pNewB, pNp1, pNp2, pNpM, hn, h0, h1] <;> omega)); clear hA hB A B) | (refine hB ?_; clear hA hB A B) | (refine onV_if ?_ ?_; (focus (first | omega | (refine ⟨?_, ?_⟩ <;> omega))); simp only [onV_s]; (first | refine hA _ _ _ ?_ ?_ | refine hA _ _ _ ?_ (by first | exact .inl rfl | exact .inr (by decide)) ?_); (focus (simp [N1, pNewB, pNp1, pNp2, pNpM, hn, h0, h1] <;> omega)); clear hA hB A B))
        | (refine RQ.nl ?_; refine hk _ _ ?_; clear hk k)
        | refine WP.sr fun k hk => ?_ | refine WP.r fun k hk => ?_
        | refine WP.sd _ rfl fun k hk => ?_ | refine WP.d _ rfl fun k hk => ?_
        | (refine WP.cc fun A B hA hB => ?_; simp [N1, pNewB, pNp1, pNp2, pNpM, hn, h0, h1, onB_t, onB_f]; first | (refine hA ?_; clear hA hB A B) | (refine hB ?_; clear hA hB A B) | (refine onB_if (fun h => hA ?_) (fun h => hB ?_) <;> clear hA hB A B))
        | refine WP.q ?_ | refine WP.b ?_)
      simp
  · refine FT.pure (fn := Tryd.f8) (W1_ok hK hT) mixed Tryd.func8 (by kernel_rfl) (by rfl) rfl rfl (by simp) (by kernel_rfl) fun μ w => ?_
    have h0 : ¬ n < 0 := by omega
    have h1 : ¬ 6 < n := by omega
    obtain ⟨m, rfl⟩ : ∃ m : Nat, n = (m : Int) := ⟨n.toNat, by omega⟩
    have hsh := fun s2 : St => W1_shown (K := K) (gw := gw) (s := s2)
    obtain ⟨s1, rid, l1, hnew, hE1, hR1, hl1⟩ := Z_new (K := K) (gw := gw) (F := V2) (s := s) m (by omega)
    rw [← W1_Z (by decide)] at hnew
    obtain ⟨s2, ids, hadd, hids, hE2, l2, hR2, hl2⟩ := Z_add (K := K) (gw := gw) (F := V2) hK hT hR1 t (by simp)
    rw [← W1_Z (by decide)] at hadd
    have hb2 : ∀ i ∈ ids, s.nx ≤ i := fun i hi => (hl1 i (hids i hi)).1
    have hal := addR_len m [] t
    have hhas := Z_has (K := K) (gw := gw) (F := V2) hK hT hR2 t hl (by simp at hal; omega)
    rw [← W1_Z (by decide)] at hhas
    have hlen := Z_len (K := K) (gw := gw) (F := V2) hK hT hR2
    rw [← W1_Z (by decide)] at hlen
    have hv1 := hR1.live
    have hv2 := hR2.live
    by_cases hf : t.length = m
    · have ha : addOk m [] t = true := by simp [addOk, hasR, hf]
      have hh : hasR (addR m [] t) t = true := by simp [addR, ha, hasR]
      have hln : (addR m [] t).length = 1 := by simp [addR, ha]
      rw [hh] at hhas
      rw [hln] at hlen
      simp only [addV, ha, hf, if_true, decide_true, Bool.true_and] at hadd hhas
      repeat' (first
        | refine WP.t ?_ | refine WP.k ?_ | refine WP.e ?_ | refine Qn ?_ | refine Qr ?_ | refine Qe ?_ | refine Bn ?_ | refine Br ?_ | refine Be ?_ | refine Bx (by decide) ?_
        | (refine RS.nl ?_; refine hk _ _ ?_; clear hk k)
        | ((first | refine RS.st fun A B hA hB => ?_ | refine RQ.st fun A B hA hB => ?_); simp [hsh, h0, h1, hnew, hadd, hhas, hlen, hb2, hv1, hv2, hf, onW_t, onW_f, onV_s]; first | ((first | refine hA _ _ _ ?_ ?_ | refine hA _ _ _ ?_ (by first | exact .inl rfl | exact .inr (by decide)) ?_); (focus (simp [hsh, h0, h1, hnew, hadd, hhas, hlen, hb2, hv1, hv2, hf] <;> omega)); clear hA hB A B) | (refine hB ?_; clear hA hB A B) | (refine onV_if ?_ ?_; (focus (first | omega | (refine ⟨?_, ?_⟩ <;> omega))); simp only [onV_s]; (first | refine hA _ _ _ ?_ ?_ | refine hA _ _ _ ?_ (by first | exact .inl rfl | exact .inr (by decide)) ?_); (focus (simp [hsh, h0, h1, hnew, hadd, hhas, hlen, hb2, hv1, hv2, hf] <;> omega)); clear hA hB A B))
        | (refine RQ.nl ?_; refine hk _ _ ?_; clear hk k)
        | refine WP.sr fun k hk => ?_ | refine WP.r fun k hk => ?_
        | refine WP.sd _ rfl fun k hk => ?_ | refine WP.d _ rfl fun k hk => ?_
        | (refine WP.cc fun A B hA hB => ?_; simp [hsh, h0, h1, hnew, hadd, hhas, hlen, hb2, hv1, hv2, hf, onB_t, onB_f]; first | (refine hA ?_; clear hA hB A B) | (refine hB ?_; clear hA hB A B) | (refine onB_if (fun h => hA ?_) (fun h => hB ?_) <;> clear hA hB A B))
        | refine WP.q ?_ | refine WP.b ?_)
      simp
    · have ha : addOk m [] t = false := by simp [addOk, hf]
      have hb : (((t.length : Nat) : Int) == ((m : Nat) : Int)) = false := beq_eq_false_iff_ne.2 (by omega)
      have hln : (addR m [] t).length = 0 := by simp [addR, ha]
      rw [hln] at hlen
      simp only [addV, ha, hf, if_false, decide_false, Bool.false_and] at hadd hhas
      repeat' (first
        | refine WP.t ?_ | refine WP.k ?_ | refine WP.e ?_ | refine Qn ?_ | refine Qr ?_ | refine Qe ?_ | refine Bn ?_ | refine Br ?_ | refine Be ?_ | refine Bx (by decide) ?_
        | (refine RS.nl ?_; refine hk _ _ ?_; clear hk k)
        | ((first | refine RS.st fun A B hA hB => ?_ | refine RQ.st fun A B hA hB => ?_); simp [hsh, h0, h1, hnew, hadd, hhas, hlen, hb2, hv1, hv2, hb, onW_t, onW_f, onV_s]; first | ((first | refine hA _ _ _ ?_ ?_ | refine hA _ _ _ ?_ (by first | exact .inl rfl | exact .inr (by decide)) ?_); (focus (simp [hsh, h0, h1, hnew, hadd, hhas, hlen, hb2, hv1, hv2, hb] <;> omega)); clear hA hB A B) | (refine hB ?_; clear hA hB A B) | (refine onV_if ?_ ?_; (focus (first | omega | (refine ⟨?_, ?_⟩ <;> omega))); simp only [onV_s]; (first | refine hA _ _ _ ?_ ?_ | refine hA _ _ _ ?_ (by first | exact .inl rfl | exact .inr (by decide)) ?_); (focus (simp [hsh, h0, h1, hnew, hadd, hhas, hlen, hb2, hv1, hv2, hb] <;> omega)); clear hA hB A B))
        | (refine RQ.nl ?_; refine hk _ _ ?_; clear hk k)
        | refine WP.sr fun k hk => ?_ | refine WP.r fun k hk => ?_
        | refine WP.sd _ rfl fun k hk => ?_ | refine WP.d _ rfl fun k hk => ?_
        | (refine WP.cc fun A B hA hB => ?_; simp [hsh, h0, h1, hnew, hadd, hhas, hlen, hb2, hv1, hv2, hb, onB_t, onB_f]; first | (refine hA ?_; clear hA hB A B) | (refine hB ?_; clear hA hB A B) | (refine onB_if (fun h => hA ?_) (fun h => hB ?_) <;> clear hA hB A B))
        | refine WP.q ?_ | refine WP.b ?_)
      simp
end
end Go.Am
