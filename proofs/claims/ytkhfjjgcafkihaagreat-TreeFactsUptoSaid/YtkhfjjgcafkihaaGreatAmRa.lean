/- Part of the proof: abstract values over the given model of Go (R1, R2, R3, R3B). Conditions: none of its own; see the statement in the seat's Rows text. -/
import Derived.Test.YtkhfjjgcafkihaaGreatAmUd
set_option linter.unusedSimpArgs false
set_option linter.unusedVariables false
set_option linter.unusedSectionVars false
namespace Go.Am
open Go.Proofs
/-! ### the reference: values -/
section
variable {K : Nat} {gw : World} {s : St}
attribute [local simp] awanted xop zOf cz zrow aop ev T0 Slots.put Slots.set Slots.get awr WOk AV.may ofConst abinop aint isConst St.get_push St.get_put St.live AV.fit AV.cells AV.one fieldOf afieldAddr aload ofCells astore splice May eqres env_ti FinP FinZ FinW ares aresL ares1 Fns.addP Fns.add Fns.a0 Fns.a1 Fns.a2 Fns.a3 Fns.a4 abuiltin alenOk alen aindex elemOfT elemId abuildSlice afill chunks ard aappend isSS AV.isStr aminmax placesOf abuild afield aidx isStrD isStrDesc astrop aslice asliceOk abound arange anext aextract aunop aeq AV.ck avseq aveq aconv aconvert onB_t onB_f List.range_succ
theorem cmpS_cons (a b : UInt8) (x y : List UInt8) : cmpS (a :: x) (b :: y) = if (a.toNat : Int) < b.toNat then -1 else if (b.toNat : Int) < a.toNat then 1 else cmpS x y := by
  unfold cmpS
  simp only [Op.bytesLess]
  by_cases h : (a.toNat : Int) < b.toNat
  · have : a < b := by rw [UInt8.lt_iff_toNat_lt]; omega
    simp [h, this]
  · have h1 : ¬ a < b := by rw [UInt8.lt_iff_toNat_lt]; omega
    rw [if_neg h]
    by_cases h2 : (b.toNat : Int) < a.toNat
    · have h3 : ¬ a = b := by rintro rfl; omega
      simp [h1, h2, h3]
    · have h3 : a = b := by rw [← UInt8.toNat_inj]; omega
      subst h3
      simp [h1, h2]
theorem cmpS_drop {x y : List UInt8} {i : Nat} (hx : i < x.length) (hy : i < y.length) :
    cmpS (x.drop i) (y.drop i) = if (x[i].toNat : Int) < y[i].toNat then -1 else if (y[i].toNat : Int) < x[i].toNat then 1 else cmpS (x.drop (i + 1)) (y.drop (i + 1)) := by
  rw [List.drop_eq_getElem_cons hx, List.drop_eq_getElem_cons hy, cmpS_cons]
theorem cmpS_end {x y : List UInt8} {i : Nat} (h : i = min x.length y.length) : cmpS (x.drop i) (y.drop i) = cmpI x.length y.length := by
  unfold cmpI
  by_cases h1 : x.length < y.length
  · obtain rfl : i = x.length := by omega
    rw [List.drop_length, if_pos (by omega), List.drop_eq_getElem_cons h1]; rfl
  · by_cases h2 : y.length < x.length
    · obtain rfl : i = y.length := by omega
      rw [List.drop_length, if_neg (by omega), if_pos (by omega), List.drop_eq_getElem_cons h2]; rfl
    · obtain rfl : i = x.length := by omega
      rw [if_neg (by omega), if_neg (by omega)]
      have : x.length = y.length := by omega
      rw [List.drop_length, this, List.drop_length]; rfl
theorem ft_texts (x y : List UInt8) (hx : x.length < LIM) (hy : y.length < LIM) : FT (env K gw) NoW 49 [.str x, .str y] s (.int .i64 (cmpS x y)) s := by
  refine FT.pure (fn := Tryz.f49) (F0_ok) mixed Tryz.func49 (by kernel_rfl) (by rfl) rfl rfl (by simp) rfl fun μ w => ?_
  repeat' (first
    | refine WP.t ?_ | refine WP.k ?_ | refine WP.e ?_ | refine Qn ?_ | refine Qr ?_ | refine Qe ?_ | refine Bn ?_ | refine Br ?_ | refine Be ?_ | refine Bx (by decide) ?_
    | (refine RS.nl ?_; refine hk _ _ ?_; clear hk k)
    | ((first | refine RS.st fun A B hA hB => ?_ | refine RQ.st fun A B hA hB => ?_); simp [onW_t, onW_t, onW_f, onV_s]; first | ((first | refine hA _ _ _ ?_ ?_ | refine hA _ _ _ ?_ (by first | exact .inl rfl | exact .inr (by decide)) ?_); (focus (simp [onW_t] <;> omega)); clear hA hB A B) | (refine hB ?_; clear hA hB A B) | (refine onV_if ?_ ?_; (focus (first | omega | (refine ⟨?_, ?_⟩ <;> omega))); simp only [onV_s]; (first | refine hA _ _ _ ?_ ?_ | refine hA _ _ _ ?_ (by first | exact .inl rfl | exact .inr (by decide)) ?_); (focus (simp [onW_t] <;> omega)); clear hA hB A B))
    | (refine RQ.nl ?_; refine hk _ _ ?_; clear hk k)
    | refine WP.sr fun k hk => ?_ | refine WP.r fun k hk => ?_
    | refine WP.sd _ rfl fun k hk => ?_ | refine WP.d _ rfl fun k hk => ?_
    | (refine WP.cc fun A B hA hB => ?_; simp [onW_t, onB_t, onB_f]; first | (refine hA ?_; clear hA hB A B) | (refine hB ?_; clear hA hB A B) | (refine onB_if (fun h => hA ?_) (fun h => hB ?_) <;> clear hA hB A B))
    | refine WP.q ?_ | refine WP.b ?_)
  refine WP_loop (fun n T s' => ∃ i : Nat, n + i = min x.length y.length ∧ s' = s ∧ T.get 0 = .str x ∧ T.get 1 = .str y ∧ T.get 5 = .int .i64 i ∧ cmpS x y = cmpS (x.drop i) (y.drop i)) (min x.length y.length) ⟨0, by simp, rfl, by simp, by simp, by simp, by simp⟩ ?_
  rintro n T s' ⟨i, hn, rfl, h0, h1, h5, hc⟩
  by_cases hi : i < min x.length y.length
  · have hx' : i < x.length := by omega
    have hy' : i < y.length := by omega
    have hw : IntKind.i64.wrap ((i : Int) + 1) = (i : Int) + 1 := wrap64 (by omega) (by simp only [LIM] at hx; omega)
    have ha : x[i]? = some x[i] := List.getElem?_eq_getElem hx'
    have hb : y[i]? = some y[i] := List.getElem?_eq_getElem hy'
    rw [cmpS_drop hx' hy'] at hc
    repeat' (first
      | refine WP.t ?_ | refine WP.k ?_ | refine WP.e ?_ | refine Qn ?_ | refine Qr ?_ | refine Qe ?_ | refine Bn ?_ | refine Br ?_ | refine Be ?_ | refine Bx (by decide) ?_
      | (refine RS.nl ?_; refine hk _ _ ?_; clear hk k)
      | ((first | refine RS.st fun A B hA hB => ?_ | refine RQ.st fun A B hA hB => ?_); simp [h0, h1, h5, hx', hy', ha, hb, hw, onW_t, onW_f, onV_s]; first | ((first | refine hA _ _ _ ?_ ?_ | refine hA _ _ _ ?_ (by first | exact .inl rfl | exact .inr (by decide)) ?_); (focus (simp [h0, h1, h5, hx', hy', ha, hb, hw] <;> omega)); clear hA hB A B) | (refine hB ?_; clear hA hB A B) | (refine onV_if ?_ ?_; (focus (first | omega | (refine ⟨?_, ?_⟩ <;> omega))); simp only [onV_s]; (first | refine hA _ _ _ ?_ ?_ | refine hA _ _ _ ?_ (by first | exact .inl rfl | exact .inr (by decide)) ?_); (focus (simp [h0, h1, h5, hx', hy', ha, hb, hw] <;> omega)); clear hA hB A B))
      | (refine RQ.nl ?_; refine hk _ _ ?_; clear hk k)
      | refine WP.sr fun k hk => ?_ | refine WP.r fun k hk => ?_
      | refine WP.sd _ rfl fun k hk => ?_ | refine WP.d _ rfl fun k hk => ?_
      | (refine WP.cc fun A B hA hB => ?_; simp [h0, h1, h5, hx', hy', ha, hb, hw, onB_t, onB_f]; first | (refine hA ?_; clear hA hB A B) | (refine hB ?_; clear hA hB A B) | (refine onB_if (fun h => hA ?_) (fun h => hB ?_) <;> clear hA hB A B))
      | refine WP.q ?_ | refine WP.b ?_)
    · simp at h
      rw [if_pos (by omega)] at hc
      simp [hc]
    · rename_i h'
      simp at h h'
      rw [if_neg (by omega), if_pos (by omega)] at hc
      simp [hc]
    · rename_i h'
      simp at h h'
      rw [if_neg (by omega), if_neg (by omega)] at hc
      exact ⟨n - 1, by omega, i + 1, by omega, rfl, by simp [h0], by simp [h1], by simp, hc⟩
  · have he : i = min x.length y.length := by omega
    rw [cmpS_end he] at hc
    by_cases hx' : i < x.length
    · have hy' : ¬ i < y.length := by omega
      repeat' (first
        | refine WP.t ?_ | refine WP.k ?_ | refine WP.e ?_ | refine Qn ?_ | refine Qr ?_ | refine Qe ?_ | refine Bn ?_ | refine Br ?_ | refine Be ?_ | refine Bx (by decide) ?_
        | (refine RS.nl ?_; refine hk _ _ ?_; clear hk k)
        | ((first | refine RS.st fun A B hA hB => ?_ | refine RQ.st fun A B hA hB => ?_); simp [h0, h1, h5, hx', hy', onW_t, onW_f, onV_s]; first | ((first | refine hA _ _ _ ?_ ?_ | refine hA _ _ _ ?_ (by first | exact .inl rfl | exact .inr (by decide)) ?_); (focus (simp [h0, h1, h5, hx', hy'] <;> omega)); clear hA hB A B) | (refine hB ?_; clear hA hB A B) | (refine onV_if ?_ ?_; (focus (first | omega | (refine ⟨?_, ?_⟩ <;> omega))); simp only [onV_s]; (first | refine hA _ _ _ ?_ ?_ | refine hA _ _ _ ?_ (by first | exact .inl rfl | exact .inr (by decide)) ?_); (focus (simp [h0, h1, h5, hx', hy'] <;> omega)); clear hA hB A B))
        | (refine RQ.nl ?_; refine hk _ _ ?_; clear hk k)
        | refine WP.sr fun k hk => ?_ | refine WP.r fun k hk => ?_
        | refine WP.sd _ rfl fun k hk => ?_ | refine WP.d _ rfl fun k hk => ?_
        | (refine WP.cc fun A B hA hB => ?_; simp [h0, h1, h5, hx', hy', onB_t, onB_f]; first | (refine hA ?_; clear hA hB A B) | (refine hB ?_; clear hA hB A B) | (refine onB_if (fun h => hA ?_) (fun h => hB ?_) <;> clear hA hB A B))
        | refine WP.q ?_ | refine WP.b ?_)
      all_goals (simp at *; rw [hc]; unfold cmpI; first | (rw [if_pos (by omega)]; done) | (rw [if_neg (by omega), if_pos (by omega)]; done) | rw [if_neg (by omega), if_neg (by omega)])
    · skip
      repeat' (first
        | refine WP.t ?_ | refine WP.k ?_ | refine WP.e ?_ | refine Qn ?_ | refine Qr ?_ | refine Qe ?_ | refine Bn ?_ | refine Br ?_ | refine Be ?_ | refine Bx (by decide) ?_
        | (refine RS.nl ?_; refine hk _ _ ?_; clear hk k)
        | ((first | refine RS.st fun A B hA hB => ?_ | refine RQ.st fun A B hA hB => ?_); simp [h0, h1, h5, hx', onW_t, onW_f, onV_s]; first | ((first | refine hA _ _ _ ?_ ?_ | refine hA _ _ _ ?_ (by first | exact .inl rfl | exact .inr (by decide)) ?_); (focus (simp [h0, h1, h5, hx'] <;> omega)); clear hA hB A B) | (refine hB ?_; clear hA hB A B) | (refine onV_if ?_ ?_; (focus (first | omega | (refine ⟨?_, ?_⟩ <;> omega))); simp only [onV_s]; (first | refine hA _ _ _ ?_ ?_ | refine hA _ _ _ ?_ (by first | exact .inl rfl | exact .inr (by decide)) ?_); (focus (simp [h0, h1, h5, hx'] <;> omega)); clear hA hB A B))
        | (refine RQ.nl ?_; refine hk _ _ ?_; clear hk k)
        | refine WP.sr fun k hk => ?_ | refine WP.r fun k hk => ?_
        | refine WP.sd _ rfl fun k hk => ?_ | refine WP.d _ rfl fun k hk => ?_
        | (refine WP.cc fun A B hA hB => ?_; simp [h0, h1, h5, hx', onB_t, onB_f]; first | (refine hA ?_; clear hA hB A B) | (refine hB ?_; clear hA hB A B) | (refine onB_if (fun h => hA ?_) (fun h => hB ?_) <;> clear hA hB A B))
        | refine WP.q ?_ | refine WP.b ?_)
      all_goals (simp at *; rw [hc]; unfold cmpI; first | (rw [if_pos (by omega)]; done) | (rw [if_neg (by omega), if_pos (by omega)]; done) | rw [if_neg (by omega), if_neg (by omega)])
def Q1 : Fns := F0.a2 49 vStr vStr fun x y => if x.length < LIM ∧ y.length < LIM then some (.int .i64 (cmpS x y)) else none
theorem Q1_ok : FOk (env K gw) Q1 := F0_ok.a2 fun x y s r h => by
  split at h
  · rename_i hl; cases h; exact ft_texts x y hl.1 hl.2
  · cases h
theorem ft_RVComp (v u : V) (hv : v.s.length < LIM) (hu : u.s.length < LIM) : FT (env K gw) NoW 26 [.agg v.cs, .agg u.cs] s (.int .i64 (cmpV v u)) s := by
  have hq : ∀ s2, Q1 49 [.str v.s, .str u.s] s2 = some (.int .i64 (cmpS v.s u.s), s2, []) := fun s2 => by simp [Q1, vStr, hv, hu]
  refine FT.pure (fn := Tryz.f26) Q1_ok mixed Tryz.func26 (by kernel_rfl) (by rfl) rfl rfl (by simp) rfl fun μ w => ?_
  obtain ⟨b, x, n⟩ := v
  obtain ⟨b', x', n'⟩ := u
  simp only at hv hu hq
  cases b <;> cases b'
  all_goals
    repeat' (first
      | refine WP.t ?_ | refine WP.k ?_ | refine WP.e ?_ | refine Qn ?_ | refine Qr ?_ | refine Qe ?_ | refine Bn ?_ | refine Br ?_ | refine Be ?_ | refine Bx (by decide) ?_
      | (refine RS.nl ?_; refine hk _ _ ?_; clear hk k)
      | ((first | refine RS.st fun A B hA hB => ?_ | refine RQ.st fun A B hA hB => ?_); simp [V.cs, hq, onW_t, onW_f, onV_s]; first | ((first | refine hA _ _ _ ?_ ?_ | refine hA _ _ _ ?_ (by first | exact .inl rfl | exact .inr (by decide)) ?_); (focus (simp [V.cs, hq] <;> omega)); clear hA hB A B) | (refine hB ?_; clear hA hB A B) | (refine onV_if ?_ ?_; (focus (first | omega | (refine ⟨?_, ?_⟩ <;> omega))); simp only [onV_s]; (first | refine hA _ _ _ ?_ ?_ | refine hA _ _ _ ?_ (by first | exact .inl rfl | exact .inr (by decide)) ?_); (focus (simp [V.cs, hq] <;> omega)); clear hA hB A B))
      | (refine RQ.nl ?_; refine hk _ _ ?_; clear hk k)
      | refine WP.sr fun k hk => ?_ | refine WP.r fun k hk => ?_
      | refine WP.sd _ rfl fun k hk => ?_ | refine WP.d _ rfl fun k hk => ?_
      | (refine WP.cc fun A B hA hB => ?_; simp [V.cs, hq, onB_t, onB_f]; first | (refine hA ?_; clear hA hB A B) | (refine hB ?_; clear hA hB A B) | (refine onB_if (fun h => hA ?_) (fun h => hB ?_) <;> clear hA hB A B))
      | refine WP.q ?_ | refine WP.b ?_)
  all_goals (simp at *; try simp [cmpV, cmpI]; try omega)
def Q2 : Fns := Q1.a2 26 (vAgg cV) (vAgg cV) fun v u => if v.s.length < LIM ∧ u.s.length < LIM then some (.int .i64 (cmpV v u)) else none
theorem Q2_ok : FOk (env K gw) Q2 := Q1_ok.a2 fun v u s r h => by
  split at h
  · rename_i hl; cases h; exact ft_RVComp v u hl.1 hl.2
  · cases h
theorem Q2_cmp (v u : V) (hv : v.s.length < LIM) (hu : u.s.length < LIM) (s2 : St) : Q2 26 [.agg v.cs, .agg u.cs] s2 = some (.int .i64 (cmpV v u), s2, []) := by
  have h1 : (vAgg cV).dec (.agg v.cs) = some v := (vAgg cV).dec_enc v
  have h2 : (vAgg cV).dec (.agg u.cs) = some u := (vAgg cV).dec_enc u
  simp [Q2, h1, h2, hv, hu]
theorem ft_RVSame (v u : V) (hv : v.s.length < LIM) (hu : u.s.length < LIM) : FT (env K gw) NoW 25 [.agg v.cs, .agg u.cs] s (.bool (cmpV v u == 0)) s := by
  have hq := Q2_cmp v u hv hu
  simp only [V.cs] at hq
  refine FT.pure (fn := Tryz.f25) Q2_ok mixed Tryz.func25 (by kernel_rfl) (by rfl) rfl rfl (by simp) rfl fun μ w => ?_
  repeat' (first
    | refine WP.t ?_ | refine WP.k ?_ | refine WP.e ?_ | refine Qn ?_ | refine Qr ?_ | refine Qe ?_ | refine Bn ?_ | refine Br ?_ | refine Be ?_ | refine Bx (by decide) ?_
    | (refine RS.nl ?_; refine hk _ _ ?_; clear hk k)
    | ((first | refine RS.st fun A B hA hB => ?_ | refine RQ.st fun A B hA hB => ?_); simp [V.cs, hq, onW_t, onW_f, onV_s]; first | ((first | refine hA _ _ _ ?_ ?_ | refine hA _ _ _ ?_ (by first | exact .inl rfl | exact .inr (by decide)) ?_); (focus (simp [V.cs, hq] <;> omega)); clear hA hB A B) | (refine hB ?_; clear hA hB A B) | (refine onV_if ?_ ?_; (focus (first | omega | (refine ⟨?_, ?_⟩ <;> omega))); simp only [onV_s]; (first | refine hA _ _ _ ?_ ?_ | refine hA _ _ _ ?_ (by first | exact .inl rfl | exact .inr (by decide)) ?_); (focus (simp [V.cs, hq] <;> omega)); clear hA hB A B))
    | (refine RQ.nl ?_; refine hk _ _ ?_; clear hk k)
    | refine WP.sr fun k hk => ?_ | refine WP.r fun k hk => ?_
    | refine WP.sd _ rfl fun k hk => ?_ | refine WP.d _ rfl fun k hk => ?_
    | (refine WP.cc fun A B hA hB => ?_; simp [V.cs, hq, onB_t, onB_f]; first | (refine hA ?_; clear hA hB A B) | (refine hB ?_; clear hA hB A B) | (refine onB_if (fun h => hA ?_) (fun h => hB ?_) <;> clear hA hB A B))
    | refine WP.q ?_ | refine WP.b ?_)
  simp
def Q3 : Fns := Q2.a2 25 (vAgg cV) (vAgg cV) fun v u => if v.s.length < LIM ∧ u.s.length < LIM then some (.bool (cmpV v u == 0)) else none
theorem Q3_ok : FOk (env K gw) Q3 := Q2_ok.a2 fun v u s r h => by
  split at h
  · rename_i hl; cases h; exact ft_RVSame v u hl.1 hl.2
  · cases h
theorem Q3_cmp (v u : V) (hv : v.s.length < LIM) (hu : u.s.length < LIM) (s2 : St) : Q3 26 [.agg v.cs, .agg u.cs] s2 = some (.int .i64 (cmpV v u), s2, []) := by
  have := Q2_cmp v u hv hu s2
  simpa [Q3] using this
theorem Q3_same (v u : V) (hv : v.s.length < LIM) (hu : u.s.length < LIM) (s2 : St) : Q3 25 [.agg v.cs, .agg u.cs] s2 = some (.bool (cmpV v u == 0), s2, []) := by
  have h1 : (vAgg cV).dec (.agg v.cs) = some v := (vAgg cV).dec_enc v
  have h2 : (vAgg cV).dec (.agg u.cs) = some u := (vAgg cV).dec_enc u
  simp [Q3, h1, h2, hv, hu]
theorem cmpV_rng (v u : V) : cmpV v u = -1 ∨ cmpV v u = 0 ∨ cmpV v u = 1 := by
  unfold cmpV cmpS cmpI
  repeat' split
  all_goals simp
theorem ft_RVHolds (op : Str) (v u : V) (hv : v.s.length < LIM) (hu : u.s.length < LIM) : FT (env K gw) NoW 95 [.str op, .agg v.cs, .agg u.cs] s (.tup [.bool (opH op (cmpV v u)).1, .bool (opH op (cmpV v u)).2]) s := by
  have hq := Q3_cmp v u hv hu
  have hr := cmpV_rng v u
  simp only [V.cs] at hq
  refine FT.pure (fn := Tryz.f95) Q3_ok mixed Tryz.func95 (by kernel_rfl) (by rfl) rfl rfl (by simp) rfl fun μ w => ?_
  generalize cmpV v u = c at *
  by_cases h1 : op = [61]
  · subst h1
    repeat' (first
      | refine WP.t ?_ | refine WP.k ?_ | refine WP.e ?_ | refine Qn ?_ | refine Qr ?_ | refine Qe ?_ | refine Bn ?_ | refine Br ?_ | refine Be ?_ | refine Bx (by decide) ?_
      | (refine RS.nl ?_; refine hk _ _ ?_; clear hk k)
      | ((first | refine RS.st fun A B hA hB => ?_ | refine RQ.st fun A B hA hB => ?_); simp [V.cs, hq, onW_t, onW_f, onV_s]; first | ((first | refine hA _ _ _ ?_ ?_ | refine hA _ _ _ ?_ (by first | exact .inl rfl | exact .inr (by decide)) ?_); (focus (simp [V.cs, hq] <;> omega)); clear hA hB A B) | (refine hB ?_; clear hA hB A B) | (refine onV_if ?_ ?_; (focus (first | omega | (refine ⟨?_, ?_⟩ <;> omega))); simp only [onV_s]; (first | refine hA _ _ _ ?_ ?_ | refine hA _ _ _ ?_ (by first | exact .inl rfl | exact .inr (by decide)) ?_); (focus (simp [V.cs, hq] <;> omega)); clear hA hB A B))
      | (refine RQ.nl ?_; refine hk _ _ ?_; clear hk k)
      | refine WP.sr fun k hk => ?_ | refine WP.r fun k hk => ?_
      | refine WP.sd _ rfl fun k hk => ?_ | refine WP.d _ rfl fun k hk => ?_
      | (refine WP.cc fun A B hA hB => ?_; simp [V.cs, hq, onB_t, onB_f]; first | (refine hA ?_; clear hA hB A B) | (refine hB ?_; clear hA hB A B) | (refine onB_if (fun h => hA ?_) (fun h => hB ?_) <;> clear hA hB A B))
      | refine WP.q ?_ | refine WP.b ?_)
    rcases hr with rfl | rfl | rfl <;> simp [opH]
  by_cases h2 : op = [33, 61]
  · subst h2
    repeat' (first
      | refine WP.t ?_ | refine WP.k ?_ | refine WP.e ?_ | refine Qn ?_ | refine Qr ?_ | refine Qe ?_ | refine Bn ?_ | refine Br ?_ | refine Be ?_ | refine Bx (by decide) ?_
      | (refine RS.nl ?_; refine hk _ _ ?_; clear hk k)
      | ((first | refine RS.st fun A B hA hB => ?_ | refine RQ.st fun A B hA hB => ?_); simp [V.cs, hq, onW_t, onW_f, onV_s]; first | ((first | refine hA _ _ _ ?_ ?_ | refine hA _ _ _ ?_ (by first | exact .inl rfl | exact .inr (by decide)) ?_); (focus (simp [V.cs, hq] <;> omega)); clear hA hB A B) | (refine hB ?_; clear hA hB A B) | (refine onV_if ?_ ?_; (focus (first | omega | (refine ⟨?_, ?_⟩ <;> omega))); simp only [onV_s]; (first | refine hA _ _ _ ?_ ?_ | refine hA _ _ _ ?_ (by first | exact .inl rfl | exact .inr (by decide)) ?_); (focus (simp [V.cs, hq] <;> omega)); clear hA hB A B))
      | (refine RQ.nl ?_; refine hk _ _ ?_; clear hk k)
      | refine WP.sr fun k hk => ?_ | refine WP.r fun k hk => ?_
      | refine WP.sd _ rfl fun k hk => ?_ | refine WP.d _ rfl fun k hk => ?_
      | (refine WP.cc fun A B hA hB => ?_; simp [V.cs, hq, onB_t, onB_f]; first | (refine hA ?_; clear hA hB A B) | (refine hB ?_; clear hA hB A B) | (refine onB_if (fun h => hA ?_) (fun h => hB ?_) <;> clear hA hB A B))
      | refine WP.q ?_ | refine WP.b ?_)
    rcases hr with rfl | rfl | rfl <;> simp [opH]
  by_cases h3 : op = [60]
  · subst h3
    repeat' (first
      | refine WP.t ?_ | refine WP.k ?_ | refine WP.e ?_ | refine Qn ?_ | refine Qr ?_ | refine Qe ?_ | refine Bn ?_ | refine Br ?_ | refine Be ?_ | refine Bx (by decide) ?_
      | (refine RS.nl ?_; refine hk _ _ ?_; clear hk k)
      | ((first | refine RS.st fun A B hA hB => ?_ | refine RQ.st fun A B hA hB => ?_); simp [V.cs, hq, onW_t, onW_f, onV_s]; first | ((first | refine hA _ _ _ ?_ ?_ | refine hA _ _ _ ?_ (by first | exact .inl rfl | exact .inr (by decide)) ?_); (focus (simp [V.cs, hq] <;> omega)); clear hA hB A B) | (refine hB ?_; clear hA hB A B) | (refine onV_if ?_ ?_; (focus (first | omega | (refine ⟨?_, ?_⟩ <;> omega))); simp only [onV_s]; (first | refine hA _ _ _ ?_ ?_ | refine hA _ _ _ ?_ (by first | exact .inl rfl | exact .inr (by decide)) ?_); (focus (simp [V.cs, hq] <;> omega)); clear hA hB A B))
      | (refine RQ.nl ?_; refine hk _ _ ?_; clear hk k)
      | refine WP.sr fun k hk => ?_ | refine WP.r fun k hk => ?_
      | refine WP.sd _ rfl fun k hk => ?_ | refine WP.d _ rfl fun k hk => ?_
      | (refine WP.cc fun A B hA hB => ?_; simp [V.cs, hq, onB_t, onB_f]; first | (refine hA ?_; clear hA hB A B) | (refine hB ?_; clear hA hB A B) | (refine onB_if (fun h => hA ?_) (fun h => hB ?_) <;> clear hA hB A B))
      | refine WP.q ?_ | refine WP.b ?_)
    rcases hr with rfl | rfl | rfl <;> simp [opH]
  by_cases h4 : op = [60, 61]
  · subst h4
    repeat' (first
      | refine WP.t ?_ | refine WP.k ?_ | refine WP.e ?_ | refine Qn ?_ | refine Qr ?_ | refine Qe ?_ | refine Bn ?_ | refine Br ?_ | refine Be ?_ | refine Bx (by decide) ?_
      | (refine RS.nl ?_; refine hk _ _ ?_; clear hk k)
      | ((first | refine RS.st fun A B hA hB => ?_ | refine RQ.st fun A B hA hB => ?_); simp [V.cs, hq, onW_t, onW_f, onV_s]; first | ((first | refine hA _ _ _ ?_ ?_ | refine hA _ _ _ ?_ (by first | exact .inl rfl | exact .inr (by decide)) ?_); (focus (simp [V.cs, hq] <;> omega)); clear hA hB A B) | (refine hB ?_; clear hA hB A B) | (refine onV_if ?_ ?_; (focus (first | omega | (refine ⟨?_, ?_⟩ <;> omega))); simp only [onV_s]; (first | refine hA _ _ _ ?_ ?_ | refine hA _ _ _ ?_ (by first | exact .inl rfl | exact .inr (by decide)) ?_); (focus (simp [V.cs, hq] <;> omega)); clear hA hB A B))
      | (refine RQ.nl ?_; refine hk _ _ ?_; clear hk k)
      | refine WP.sr fun k hk => ?_ | refine WP.r fun k hk => ?_
      | refine WP.sd _ rfl fun k hk => ?_ | refine WP.d _ rfl fun k hk => ?_
      | (refine WP.cc fun A B hA hB => ?_; simp [V.cs, hq, onB_t, onB_f]; first | (refine hA ?_; clear hA hB A B) | (refine hB ?_; clear hA hB A B) | (refine onB_if (fun h => hA ?_) (fun h => hB ?_) <;> clear hA hB A B))
      | refine WP.q ?_ | refine WP.b ?_)
    rcases hr with rfl | rfl | rfl <;> simp [opH]
  by_cases h5 : op = [62]
  · subst h5
    repeat' (first
      | refine WP.t ?_ | refine WP.k ?_ | refine WP.e ?_ | refine Qn ?_ | refine Qr ?_ | refine Qe ?_ | refine Bn ?_ | refine Br ?_ | refine Be ?_ | refine Bx (by decide) ?_
      | (refine RS.nl ?_; refine hk _ _ ?_; clear hk k)
      | ((first | refine RS.st fun A B hA hB => ?_ | refine RQ.st fun A B hA hB => ?_); simp [V.cs, hq, onW_t, onW_f, onV_s]; first | ((first | refine hA _ _ _ ?_ ?_ | refine hA _ _ _ ?_ (by first | exact .inl rfl | exact .inr (by decide)) ?_); (focus (simp [V.cs, hq] <;> omega)); clear hA hB A B) | (refine hB ?_; clear hA hB A B) | (refine onV_if ?_ ?_; (focus (first | omega | (refine ⟨?_, ?_⟩ <;> omega))); simp only [onV_s]; (first | refine hA _ _ _ ?_ ?_ | refine hA _ _ _ ?_ (by first | exact .inl rfl | exact .inr (by decide)) ?_); (focus (simp [V.cs, hq] <;> omega)); clear hA hB A B))
      | (refine RQ.nl ?_; refine hk _ _ ?_; clear hk k)
      | refine WP.sr fun k hk => ?_ | refine WP.r fun k hk => ?_
      | refine WP.sd _ rfl fun k hk => ?_ | refine WP.d _ rfl fun k hk => ?_
      | (refine WP.cc fun A B hA hB => ?_; simp [V.cs, hq, onB_t, onB_f]; first | (refine hA ?_; clear hA hB A B) | (refine hB ?_; clear hA hB A B) | (refine onB_if (fun h => hA ?_) (fun h => hB ?_) <;> clear hA hB A B))
      | refine WP.q ?_ | refine WP.b ?_)
    rcases hr with rfl | rfl | rfl <;> simp [opH]
  by_cases h6 : op = [62, 61]
  · subst h6
    repeat' (first
      | refine WP.t ?_ | refine WP.k ?_ | refine WP.e ?_ | refine Qn ?_ | refine Qr ?_ | refine Qe ?_ | refine Bn ?_ | refine Br ?_ | refine Be ?_ | refine Bx (by decide) ?_
      | (refine RS.nl ?_; refine hk _ _ ?_; clear hk k)
      | ((first | refine RS.st fun A B hA hB => ?_ | refine RQ.st fun A B hA hB => ?_); simp [V.cs, hq, onW_t, onW_f, onV_s]; first | ((first | refine hA _ _ _ ?_ ?_ | refine hA _ _ _ ?_ (by first | exact .inl rfl | exact .inr (by decide)) ?_); (focus (simp [V.cs, hq] <;> omega)); clear hA hB A B) | (refine hB ?_; clear hA hB A B) | (refine onV_if ?_ ?_; (focus (first | omega | (refine ⟨?_, ?_⟩ <;> omega))); simp only [onV_s]; (first | refine hA _ _ _ ?_ ?_ | refine hA _ _ _ ?_ (by first | exact .inl rfl | exact .inr (by decide)) ?_); (focus (simp [V.cs, hq] <;> omega)); clear hA hB A B))
      | (refine RQ.nl ?_; refine hk _ _ ?_; clear hk k)
      | refine WP.sr fun k hk => ?_ | refine WP.r fun k hk => ?_
      | refine WP.sd _ rfl fun k hk => ?_ | refine WP.d _ rfl fun k hk => ?_
      | (refine WP.cc fun A B hA hB => ?_; simp [V.cs, hq, onB_t, onB_f]; first | (refine hA ?_; clear hA hB A B) | (refine hB ?_; clear hA hB A B) | (refine onB_if (fun h => hA ?_) (fun h => hB ?_) <;> clear hA hB A B))
      | refine WP.q ?_ | refine WP.b ?_)
    rcases hr with rfl | rfl | rfl <;> simp [opH]
  have e1 : (op == [61]) = false := by simp [h1]
  have e2 : (op == [33, 61]) = false := by simp [h2]
  have e3 : (op == [60]) = false := by simp [h3]
  have e4 : (op == [60, 61]) = false := by simp [h4]
  have e5 : (op == [62]) = false := by simp [h5]
  have e6 : (op == [62, 61]) = false := by simp [h6]
  repeat' (first
    | refine WP.t ?_ | refine WP.k ?_ | refine WP.e ?_ | refine Qn ?_ | refine Qr ?_ | refine Qe ?_ | refine Bn ?_ | refine Br ?_ | refine Be ?_ | refine Bx (by decide) ?_
    | (refine RS.nl ?_; refine hk _ _ ?_; clear hk k)
    | ((first | refine RS.st fun A B hA hB => ?_ | refine RQ.st fun A B hA hB => ?_); simp [V.cs, hq, h1, h2, h3, h4, h5, h6, e1, e2, e3, e4, e5, e6, onW_t, onW_f, onV_s]; first | ((first | refine hA _ _ _ ?_ ?_ | refine hA _ _ _ ?_ (by first | exact .inl rfl | exact .inr (by decide)) ?_); (focus (simp [V.cs, hq, h1, h2, h3, h4, h5, h6, e1, e2, e3, e4, e5, e6] <;> omega)); clear hA hB A B) | (refine hB ?_; clear hA hB A B) | (refine onV_if ?_ ?_; (focus (first | omega | (refine ⟨?_, ?_⟩ <;> omega))); simp only [onV_s]; (first | refine hA _ _ _ ?_ ?_ | refine hA _ _ _ ?_ (by first | exact .inl rfl | exact .inr (by decide)) ?_); (focus (simp [V.cs, hq, h1, h2, h3, h4, h5, h6, e1, e2, e3, e4, e5, e6] <;> omega)); clear hA hB A B))
    | (refine RQ.nl ?_; refine hk _ _ ?_; clear hk k)
    | refine WP.sr fun k hk => ?_ | refine WP.r fun k hk => ?_
    | refine WP.sd _ rfl fun k hk => ?_ | refine WP.d _ rfl fun k hk => ?_
    | (refine WP.cc fun A B hA hB => ?_; simp [V.cs, hq, h1, h2, h3, h4, h5, h6, e1, e2, e3, e4, e5, e6, onB_t, onB_f]; first | (refine hA ?_; clear hA hB A B) | (refine hB ?_; clear hA hB A B) | (refine onB_if (fun h => hA ?_) (fun h => hB ?_) <;> clear hA hB A B))
    | refine WP.q ?_ | refine WP.b ?_)
  simp [opH, h1, h2, h3, h4, h5, h6]
def Q4 : Fns := Q3.a3 95 vStr (vAgg cV) (vAgg cV) fun op v u => if v.s.length < LIM ∧ u.s.length < LIM then some (.tup [.bool (opH op (cmpV v u)).1, .bool (opH op (cmpV v u)).2]) else none
theorem Q4_ok : FOk (env K gw) Q4 := Q3_ok.a3 fun op v u s r h => by
  split at h
  · rename_i hl; cases h; exact ft_RVHolds op v u hl.1 hl.2
  · cases h
theorem ft_RBare (v : V) : FT (env K gw) NoW 73 [.agg v.cs] s (.agg (bareV v).cs) s := by
  refine FT.pure (fn := Tryz.f73) F0_ok mixed Tryz.func73 (by kernel_rfl) (by rfl) rfl rfl (by simp) rfl fun μ w => ?_
  obtain ⟨b, x, n⟩ := v
  cases b
  all_goals
    repeat' (first
      | refine WP.t ?_ | refine WP.k ?_ | refine WP.e ?_ | refine Qn ?_ | refine Qr ?_ | refine Qe ?_ | refine Bn ?_ | refine Br ?_ | refine Be ?_ | refine Bx (by decide) ?_
      | (refine RS.nl ?_; refine hk _ _ ?_; clear hk k)
      | ((first | refine RS.st fun A B hA hB => ?_ | refine RQ.st fun A B hA hB => ?_); simp [V.cs, onW_t, onW_f, onV_s]; first | ((first | refine hA _ _ _ ?_ ?_ | refine hA _ _ _ ?_ (by first | exact .inl rfl | exact .inr (by decide)) ?_); (focus (simp [V.cs] <;> omega)); clear hA hB A B) | (refine hB ?_; clear hA hB A B) | (refine onV_if ?_ ?_; (focus (first | omega | (refine ⟨?_, ?_⟩ <;> omega))); simp only [onV_s]; (first | refine hA _ _ _ ?_ ?_ | refine hA _ _ _ ?_ (by first | exact .inl rfl | exact .inr (by decide)) ?_); (focus (simp [V.cs] <;> omega)); clear hA hB A B))
      | (refine RQ.nl ?_; refine hk _ _ ?_; clear hk k)
      | refine WP.sr fun k hk => ?_ | refine WP.r fun k hk => ?_
      | refine WP.sd _ rfl fun k hk => ?_ | refine WP.d _ rfl fun k hk => ?_
      | (refine WP.cc fun A B hA hB => ?_; simp [V.cs, onB_t, onB_f]; first | (refine hA ?_; clear hA hB A B) | (refine hB ?_; clear hA hB A B) | (refine onB_if (fun h => hA ?_) (fun h => hB ?_) <;> clear hA hB A B))
      | refine WP.q ?_ | refine WP.b ?_)
  all_goals simp [bareV, V.cs]
def Q5 : Fns := Q4.a1 73 (vAgg cV) fun v => some (.agg (bareV v).cs)
theorem Q5_ok : FOk (env K gw) Q5 := Q4_ok.a1 fun v s r h => by cases h; exact ft_RBare v
end
end Go.Am
namespace Go.Am
open Go.Proofs
def okR (l : List V) : Bool := decide (l.length < LIM) && l.all fun v => decide (v.s.length < LIM)
theorem okR_iff {l : List V} : okR l = true ↔ l.length < LIM ∧ ∀ v ∈ l, v.s.length < LIM := by simp [okR]
def okFcS (f : Fc) : Bool := decide (f.p.length < LIM) && okR f.a
theorem okFcS_iff {f : Fc} : okFcS f = true ↔ f.p.length < LIM ∧ okR f.a = true := by simp [okFcS]
def hasE (fs : List Fc) (p : Str) (row : List V) : Bool := fs.any fun f => f.p == p && cmpT f.a row == 0
section
variable {K : Nat} {gw : World} {s : St}
attribute [local simp] awanted xop zOf cz zrow aop ev T0 Slots.put Slots.set Slots.get awr WOk AV.may ofConst abinop aint isConst St.get_push St.get_put St.live AV.fit AV.cells AV.one fieldOf afieldAddr aload ofCells astore splice May eqres env_ti FinP FinZ FinW ares aresL ares1 Fns.addP Fns.add Fns.a0 Fns.a1 Fns.a2 Fns.a3 Fns.a4 abuiltin alenOk alen aindex elemOfT elemId abuildSlice afill chunks ard aappend isSS AV.isStr aminmax placesOf abuild afield aidx isStrD isStrDesc astrop aslice asliceOk abound arange anext aextract aunop aeq AV.ck avseq aveq aconv aconvert onB_t onB_f List.range_succ
theorem Q5_cmp (v u : V) (hv : v.s.length < LIM) (hu : u.s.length < LIM) (s2 : St) : Q5 26 [.agg v.cs, .agg u.cs] s2 = some (.int .i64 (cmpV v u), s2, []) := by
  have := Q3_cmp v u hv hu s2
  simpa [Q5, Q4] using this
theorem Q5_same (v u : V) (hv : v.s.length < LIM) (hu : u.s.length < LIM) (s2 : St) : Q5 25 [.agg v.cs, .agg u.cs] s2 = some (.bool (cmpV v u == 0), s2, []) := by
  have := Q3_same v u hv hu s2
  simpa [Q5, Q4] using this
set_option maxRecDepth 20000 in
set_option maxHeartbeats 4000000 in
theorem ft_RTComp (x y : List V) (hx : okR x = true) (hy : okR y = true) : FT (env K gw) NoW 9 [.sl (x.map V.cs), .sl (y.map V.cs)] s (.int .i64 (cmpT x y)) s := by
  rw [okR_iff] at hx hy
  obtain ⟨hx, hxs⟩ := hx
  obtain ⟨hy, hys⟩ := hy
  refine FT.pure (fn := Tryz.f9) Q5_ok mixed Tryz.func9 (by kernel_rfl) (by rfl) rfl rfl (by simp) rfl fun μ w => ?_
  repeat' (first
    | refine WP.t ?_ | refine WP.k ?_ | refine WP.e ?_ | refine Qn ?_ | refine Qr ?_ | refine Qe ?_ | refine Bn ?_ | refine Br ?_ | refine Be ?_ | refine Bx (by decide) ?_
    | (refine RS.nl ?_; refine hk _ _ ?_; clear hk k)
    | ((first | refine RS.st fun A B hA hB => ?_ | refine RQ.st fun A B hA hB => ?_); simp [onW_t, onW_t, onW_f, onV_s]; first | ((first | refine hA _ _ _ ?_ ?_ | refine hA _ _ _ ?_ (by first | exact .inl rfl | exact .inr (by decide)) ?_); (focus (simp [onW_t] <;> omega)); clear hA hB A B) | (refine hB ?_; clear hA hB A B) | (refine onV_if ?_ ?_; (focus (first | omega | (refine ⟨?_, ?_⟩ <;> omega))); simp only [onV_s]; (first | refine hA _ _ _ ?_ ?_ | refine hA _ _ _ ?_ (by first | exact .inl rfl | exact .inr (by decide)) ?_); (focus (simp [onW_t] <;> omega)); clear hA hB A B))
    | (refine RQ.nl ?_; refine hk _ _ ?_; clear hk k)
    | refine WP.sr fun k hk => ?_ | refine WP.r fun k hk => ?_
    | refine WP.sd _ rfl fun k hk => ?_ | refine WP.d _ rfl fun k hk => ?_
    | (refine WP.cc fun A B hA hB => ?_; simp [onW_t, onB_t, onB_f]; first | (refine hA ?_; clear hA hB A B) | (refine hB ?_; clear hA hB A B) | (refine onB_if (fun h => hA ?_) (fun h => hB ?_) <;> clear hA hB A B))
    | refine WP.q ?_ | refine WP.b ?_)
  refine WP_loop (fun n T s' => ∃ i : Nat, n + i = min x.length y.length ∧ s' = s ∧ T.get 0 = .sl (x.map V.cs) ∧ T.get 1 = .sl (y.map V.cs) ∧ T.get 5 = .int .i64 i ∧ cmpT x y = cmpT (x.drop i) (y.drop i)) (min x.length y.length) ⟨0, by simp, rfl, by simp, by simp, by simp, by simp⟩ ?_
  rintro n T s' ⟨i, hn, rfl, h0, h1, h5, hc⟩
  by_cases hi : i < min x.length y.length
  · have hx' : i < x.length := by omega
    have hy' : i < y.length := by omega
    have hw : IntKind.i64.wrap ((i : Int) + 1) = (i : Int) + 1 := wrap64 (by omega) (by simp only [LIM] at hx; omega)
    have ha : x[i]? = some x[i] := List.getElem?_eq_getElem hx'
    have hb : y[i]? = some y[i] := List.getElem?_eq_getElem hy'
    have hxl := hxs x[i] (List.getElem_mem hx')
    have hyl := hys y[i] (List.getElem_mem hy')
    rw [cmpT_drop hx' hy'] at hc
    generalize hv : x[i] = v at *
    generalize hu : y[i] = u at *
    have hs := Q5_same v u hxl hyl
    have hcm := Q5_cmp v u hxl hyl
    simp only [V.cs] at hs hcm
    by_cases hz : cmpV v u = 0
    · rw [if_pos hz] at hc
      have hz2 : (cmpV v u == 0) = true := by simp [hz]
      rw [hz2] at hs
      repeat' (first
        | refine WP.t ?_ | refine WP.k ?_ | refine WP.e ?_ | refine Qn ?_ | refine Qr ?_ | refine Qe ?_ | refine Bn ?_ | refine Br ?_ | refine Be ?_ | refine Bx (by decide) ?_
        | (refine RS.nl ?_; refine hk _ _ ?_; clear hk k)
        | ((first | refine RS.st fun A B hA hB => ?_ | refine RQ.st fun A B hA hB => ?_); simp [h0, h1, h5, hx', hy', ha, hb, hv, hu, hw, hs, V.cs, onW_t, onW_f, onV_s]; first | ((first | refine hA _ _ _ ?_ ?_ | refine hA _ _ _ ?_ (by first | exact .inl rfl | exact .inr (by decide)) ?_); (focus (simp [h0, h1, h5, hx', hy', ha, hb, hv, hu, hw, hs, V.cs] <;> omega)); clear hA hB A B) | (refine hB ?_; clear hA hB A B) | (refine onV_if ?_ ?_; (focus (first | omega | (refine ⟨?_, ?_⟩ <;> omega))); simp only [onV_s]; (first | refine hA _ _ _ ?_ ?_ | refine hA _ _ _ ?_ (by first | exact .inl rfl | exact .inr (by decide)) ?_); (focus (simp [h0, h1, h5, hx', hy', ha, hb, hv, hu, hw, hs, V.cs] <;> omega)); clear hA hB A B))
        | (refine RQ.nl ?_; refine hk _ _ ?_; clear hk k)
        | refine WP.sr fun k hk => ?_ | refine WP.r fun k hk => ?_
        | refine WP.sd _ rfl fun k hk => ?_ | refine WP.d _ rfl fun k hk => ?_
        | (refine WP.cc fun A B hA hB => ?_; simp [h0, h1, h5, hx', hy', ha, hb, hv, hu, hw, hs, V.cs, onB_t, onB_f]; first | (refine hA ?_; clear hA hB A B) | (refine hB ?_; clear hA hB A B) | (refine onB_if (fun h => hA ?_) (fun h => hB ?_) <;> clear hA hB A B))
        | refine WP.q ?_ | refine WP.b ?_)
      exact ⟨n - 1, by omega, i + 1, by omega, rfl, by simp [h0], by simp [h1], by simp, hc⟩
    · rw [if_neg hz] at hc
      have hz2 : (cmpV v u == 0) = false := by rw [beq_eq_false_iff_ne]; exact hz
      rw [hz2] at hs
      rw [hc]
      repeat' (first
        | refine WP.t ?_ | refine WP.k ?_ | refine WP.e ?_ | refine Qn ?_ | refine Qr ?_ | refine Qe ?_ | refine Bn ?_ | refine Br ?_ | refine Be ?_ | refine Bx (by decide) ?_
        | (refine RS.nl ?_; refine hk _ _ ?_; clear hk k)
        | ((first | refine RS.st fun A B hA hB => ?_ | refine RQ.st fun A B hA hB => ?_); simp [h0, h1, h5, hx', hy', ha, hb, hv, hu, hw, hs, hcm, V.cs, onW_t, onW_f, onV_s]; first | ((first | refine hA _ _ _ ?_ ?_ | refine hA _ _ _ ?_ (by first | exact .inl rfl | exact .inr (by decide)) ?_); (focus (simp [h0, h1, h5, hx', hy', ha, hb, hv, hu, hw, hs, hcm, V.cs] <;> omega)); clear hA hB A B) | (refine hB ?_; clear hA hB A B) | (refine onV_if ?_ ?_; (focus (first | omega | (refine ⟨?_, ?_⟩ <;> omega))); simp only [onV_s]; (first | refine hA _ _ _ ?_ ?_ | refine hA _ _ _ ?_ (by first | exact .inl rfl | exact .inr (by decide)) ?_); (focus (simp [h0, h1, h5, hx', hy', ha, hb, hv, hu, hw, hs, hcm, V.cs] <;> omega)); clear hA hB A B))
        | (refine RQ.nl ?_; refine hk _ _ ?_; clear hk k)
        | refine WP.sr fun k hk => ?_ | refine WP.r fun k hk => ?_
        | refine WP.sd _ rfl fun k hk => ?_ | refine WP.d _ rfl fun k hk => ?_
        | (refine WP.cc fun A B hA hB => ?_; simp [h0, h1, h5, hx', hy', ha, hb, hv, hu, hw, hs, hcm, V.cs, onB_t, onB_f]; first | (refine hA ?_; clear hA hB A B) | (refine hB ?_; clear hA hB A B) | (refine onB_if (fun h => hA ?_) (fun h => hB ?_) <;> clear hA hB A B))
        | refine WP.q ?_ | refine WP.b ?_)
      simp
  · have he : i = min x.length y.length := by omega
    rw [cmpT_end he] at hc
    rw [hc]
    by_cases hx' : i < x.length
    · have hy' : ¬ i < y.length := by omega
      repeat' (first
        | refine WP.t ?_ | refine WP.k ?_ | refine WP.e ?_ | refine Qn ?_ | refine Qr ?_ | refine Qe ?_ | refine Bn ?_ | refine Br ?_ | refine Be ?_ | refine Bx (by decide) ?_
        | (refine RS.nl ?_; refine hk _ _ ?_; clear hk k)
        | ((first | refine RS.st fun A B hA hB => ?_ | refine RQ.st fun A B hA hB => ?_); simp [h0, h1, h5, hx', hy', onW_t, onW_f, onV_s]; first | ((first | refine hA _ _ _ ?_ ?_ | refine hA _ _ _ ?_ (by first | exact .inl rfl | exact .inr (by decide)) ?_); (focus (simp [h0, h1, h5, hx', hy'] <;> omega)); clear hA hB A B) | (refine hB ?_; clear hA hB A B) | (refine onV_if ?_ ?_; (focus (first | omega | (refine ⟨?_, ?_⟩ <;> omega))); simp only [onV_s]; (first | refine hA _ _ _ ?_ ?_ | refine hA _ _ _ ?_ (by first | exact .inl rfl | exact .inr (by decide)) ?_); (focus (simp [h0, h1, h5, hx', hy'] <;> omega)); clear hA hB A B))
        | (refine RQ.nl ?_; refine hk _ _ ?_; clear hk k)
        | refine WP.sr fun k hk => ?_ | refine WP.r fun k hk => ?_
        | refine WP.sd _ rfl fun k hk => ?_ | refine WP.d _ rfl fun k hk => ?_
        | (refine WP.cc fun A B hA hB => ?_; simp [h0, h1, h5, hx', hy', onB_t, onB_f]; first | (refine hA ?_; clear hA hB A B) | (refine hB ?_; clear hA hB A B) | (refine onB_if (fun h => hA ?_) (fun h => hB ?_) <;> clear hA hB A B))
        | refine WP.q ?_ | refine WP.b ?_)
      all_goals (simp at *; unfold cmpI; first | (rw [if_pos (by omega)]; done) | (rw [if_neg (by omega), if_pos (by omega)]; done) | rw [if_neg (by omega), if_neg (by omega)])
    · skip
      repeat' (first
        | refine WP.t ?_ | refine WP.k ?_ | refine WP.e ?_ | refine Qn ?_ | refine Qr ?_ | refine Qe ?_ | refine Bn ?_ | refine Br ?_ | refine Be ?_ | refine Bx (by decide) ?_
        | (refine RS.nl ?_; refine hk _ _ ?_; clear hk k)
        | ((first | refine RS.st fun A B hA hB => ?_ | refine RQ.st fun A B hA hB => ?_); simp [h0, h1, h5, hx', onW_t, onW_f, onV_s]; first | ((first | refine hA _ _ _ ?_ ?_ | refine hA _ _ _ ?_ (by first | exact .inl rfl | exact .inr (by decide)) ?_); (focus (simp [h0, h1, h5, hx'] <;> omega)); clear hA hB A B) | (refine hB ?_; clear hA hB A B) | (refine onV_if ?_ ?_; (focus (first | omega | (refine ⟨?_, ?_⟩ <;> omega))); simp only [onV_s]; (first | refine hA _ _ _ ?_ ?_ | refine hA _ _ _ ?_ (by first | exact .inl rfl | exact .inr (by decide)) ?_); (focus (simp [h0, h1, h5, hx'] <;> omega)); clear hA hB A B))
        | (refine RQ.nl ?_; refine hk _ _ ?_; clear hk k)
        | refine WP.sr fun k hk => ?_ | refine WP.r fun k hk => ?_
        | refine WP.sd _ rfl fun k hk => ?_ | refine WP.d _ rfl fun k hk => ?_
        | (refine WP.cc fun A B hA hB => ?_; simp [h0, h1, h5, hx', onB_t, onB_f]; first | (refine hA ?_; clear hA hB A B) | (refine hB ?_; clear hA hB A B) | (refine onB_if (fun h => hA ?_) (fun h => hB ?_) <;> clear hA hB A B))
        | refine WP.q ?_ | refine WP.b ?_)
      all_goals (simp at *; unfold cmpI; first | (rw [if_pos (by omega)]; done) | (rw [if_neg (by omega), if_pos (by omega)]; done) | rw [if_neg (by omega), if_neg (by omega)])
def Q6 : Fns := Q5.a2 9 (vSl cV) (vSl cV) fun x y => if okR x = true ∧ okR y = true then some (.int .i64 (cmpT x y)) else none
theorem Q6_ok : FOk (env K gw) Q6 := Q5_ok.a2 fun x y s r h => by
  split at h
  · rename_i hl; cases h; exact ft_RTComp x y hl.1 hl.2
  · cases h
theorem Q6_cmpT (x y : List V) (hx : okR x = true) (hy : okR y = true) (s2 : St) : Q6 9 [.sl (x.map V.cs), .sl (y.map V.cs)] s2 = some (.int .i64 (cmpT x y), s2, []) := by
  have h1 : (vSl cV).dec (.sl (x.map V.cs)) = some x := (vSl cV).dec_enc x
  have h2 : (vSl cV).dec (.sl (y.map V.cs)) = some y := (vSl cV).dec_enc y
  simp [Q6, h1, h2, hx, hy]
theorem Q6_cmpS (x y : Str) (hx : x.length < LIM) (hy : y.length < LIM) (s2 : St) : Q6 26 [.agg [.bool true, .str x, .int .i64 0], .agg [.bool true, .str y, .int .i64 0]] s2 = some (.int .i64 (cmpS x y), s2, []) := by
  have := Q5_cmp ⟨true, x, 0⟩ ⟨true, y, 0⟩ hx hy s2
  simpa [Q6, V.cs, cmpV] using this
theorem ft_RFComp (f g : Fc) (hf : okFcS f = true) (hg : okFcS g = true) : FT (env K gw) NoW 50 [.agg f.cs, .agg g.cs] s (.int .i64 (cmpF f g)) s := by
  rw [okFcS_iff] at hf hg
  have h1 := Q6_cmpS f.p g.p hf.1 hg.1
  have h2 := Q6_cmpT f.a g.a hf.2 hg.2
  refine FT.pure (fn := Tryz.f50) Q6_ok mixed Tryz.func50 (by kernel_rfl) (by rfl) rfl rfl (by simp) rfl fun μ w => ?_
  by_cases hz : cmpS f.p g.p = 0
  · have hz2 : (cmpS f.p g.p != 0) = false := by simp [hz]
    repeat' (first
      | refine WP.t ?_ | refine WP.k ?_ | refine WP.e ?_ | refine Qn ?_ | refine Qr ?_ | refine Qe ?_ | refine Bn ?_ | refine Br ?_ | refine Be ?_ | refine Bx (by decide) ?_
      | (refine RS.nl ?_; refine hk _ _ ?_; clear hk k)
      | ((first | refine RS.st fun A B hA hB => ?_ | refine RQ.st fun A B hA hB => ?_); simp [Fc.cs, h1, h2, hz, hz2, onW_t, onW_f, onV_s]; first | ((first | refine hA _ _ _ ?_ ?_ | refine hA _ _ _ ?_ (by first | exact .inl rfl | exact .inr (by decide)) ?_); (focus (simp [Fc.cs, h1, h2, hz, hz2] <;> omega)); clear hA hB A B) | (refine hB ?_; clear hA hB A B) | (refine onV_if ?_ ?_; (focus (first | omega | (refine ⟨?_, ?_⟩ <;> omega))); simp only [onV_s]; (first | refine hA _ _ _ ?_ ?_ | refine hA _ _ _ ?_ (by first | exact .inl rfl | exact .inr (by decide)) ?_); (focus (simp [Fc.cs, h1, h2, hz, hz2] <;> omega)); clear hA hB A B))
      | (refine RQ.nl ?_; refine hk _ _ ?_; clear hk k)
      | refine WP.sr fun k hk => ?_ | refine WP.r fun k hk => ?_
      | refine WP.sd _ rfl fun k hk => ?_ | refine WP.d _ rfl fun k hk => ?_
      | (refine WP.cc fun A B hA hB => ?_; simp [Fc.cs, h1, h2, hz, hz2, onB_t, onB_f]; first | (refine hA ?_; clear hA hB A B) | (refine hB ?_; clear hA hB A B) | (refine onB_if (fun h => hA ?_) (fun h => hB ?_) <;> clear hA hB A B))
      | refine WP.q ?_ | refine WP.b ?_)
    simp [cmpF, hz]
  · have hz2 : (cmpS f.p g.p != 0) = true := by simp [hz]
    repeat' (first
      | refine WP.t ?_ | refine WP.k ?_ | refine WP.e ?_ | refine Qn ?_ | refine Qr ?_ | refine Qe ?_ | refine Bn ?_ | refine Br ?_ | refine Be ?_ | refine Bx (by decide) ?_
      | (refine RS.nl ?_; refine hk _ _ ?_; clear hk k)
      | ((first | refine RS.st fun A B hA hB => ?_ | refine RQ.st fun A B hA hB => ?_); simp [Fc.cs, h1, h2, hz, hz2, onW_t, onW_f, onV_s]; first | ((first | refine hA _ _ _ ?_ ?_ | refine hA _ _ _ ?_ (by first | exact .inl rfl | exact .inr (by decide)) ?_); (focus (simp [Fc.cs, h1, h2, hz, hz2] <;> omega)); clear hA hB A B) | (refine hB ?_; clear hA hB A B) | (refine onV_if ?_ ?_; (focus (first | omega | (refine ⟨?_, ?_⟩ <;> omega))); simp only [onV_s]; (first | refine hA _ _ _ ?_ ?_ | refine hA _ _ _ ?_ (by first | exact .inl rfl | exact .inr (by decide)) ?_); (focus (simp [Fc.cs, h1, h2, hz, hz2] <;> omega)); clear hA hB A B))
      | (refine RQ.nl ?_; refine hk _ _ ?_; clear hk k)
      | refine WP.sr fun k hk => ?_ | refine WP.r fun k hk => ?_
      | refine WP.sd _ rfl fun k hk => ?_ | refine WP.d _ rfl fun k hk => ?_
      | (refine WP.cc fun A B hA hB => ?_; simp [Fc.cs, h1, h2, hz, hz2, onB_t, onB_f]; first | (refine hA ?_; clear hA hB A B) | (refine hB ?_; clear hA hB A B) | (refine onB_if (fun h => hA ?_) (fun h => hB ?_) <;> clear hA hB A B))
      | refine WP.q ?_ | refine WP.b ?_)
    simp [cmpF, hz]
def Q7 : Fns := Q6.a2 50 (vAgg cFc) (vAgg cFc) fun f g => if okFcS f = true ∧ okFcS g = true then some (.int .i64 (cmpF f g)) else none
theorem Q7_ok : FOk (env K gw) Q7 := Q6_ok.a2 fun f g s r h => by
  split at h
  · rename_i hl; cases h; exact ft_RFComp f g hl.1 hl.2
  · cases h
theorem Q7_cmpF (f g : Fc) (hf : okFcS f = true) (hg : okFcS g = true) (s2 : St) : Q7 50 [.agg f.cs, .agg g.cs] s2 = some (.int .i64 (cmpF f g), s2, []) := by
  have h1 : (vAgg cFc).dec (.agg f.cs) = some f := (vAgg cFc).dec_enc f
  have h2 : (vAgg cFc).dec (.agg g.cs) = some g := (vAgg cFc).dec_enc g
  simp [Q7, h1, h2, hf, hg]
theorem Q7_cmpT (x y : List V) (hx : okR x = true) (hy : okR y = true) (s2 : St) : Q7 9 [.sl (x.map V.cs), .sl (y.map V.cs)] s2 = some (.int .i64 (cmpT x y), s2, []) := by
  have := Q6_cmpT x y hx hy s2
  simpa [Q7] using this
set_option maxHeartbeats 4000000 in
theorem ft_RHas (fs : List Fc) (p : Str) (row : List V) (hfs : fs.length < LIM) (hok : ∀ f ∈ fs, okR f.a = true) (hr : okR row = true) : FT (env K gw) NoW 71 [.sl (fs.map Fc.cs), .str p, .sl (row.map V.cs)] s (.bool (hasE fs p row)) s := by
  refine FT.pure (fn := Tryz.f71) Q7_ok mixed Tryz.func71 (by kernel_rfl) (by rfl) rfl rfl (by simp) rfl fun μ w => ?_
  repeat' (first
    | refine WP.t ?_ | refine WP.k ?_ | refine WP.e ?_ | refine Qn ?_ | refine Qr ?_ | refine Qe ?_ | refine Bn ?_ | refine Br ?_ | refine Be ?_ | refine Bx (by decide) ?_
    | (refine RS.nl ?_; refine hk _ _ ?_; clear hk k)
    | ((first | refine RS.st fun A B hA hB => ?_ | refine RQ.st fun A B hA hB => ?_); simp [onW_t, onW_t, onW_f, onV_s]; first | ((first | refine hA _ _ _ ?_ ?_ | refine hA _ _ _ ?_ (by first | exact .inl rfl | exact .inr (by decide)) ?_); (focus (simp [onW_t] <;> omega)); clear hA hB A B) | (refine hB ?_; clear hA hB A B) | (refine onV_if ?_ ?_; (focus (first | omega | (refine ⟨?_, ?_⟩ <;> omega))); simp only [onV_s]; (first | refine hA _ _ _ ?_ ?_ | refine hA _ _ _ ?_ (by first | exact .inl rfl | exact .inr (by decide)) ?_); (focus (simp [onW_t] <;> omega)); clear hA hB A B))
    | (refine RQ.nl ?_; refine hk _ _ ?_; clear hk k)
    | refine WP.sr fun k hk => ?_ | refine WP.r fun k hk => ?_
    | refine WP.sd _ rfl fun k hk => ?_ | refine WP.d _ rfl fun k hk => ?_
    | (refine WP.cc fun A B hA hB => ?_; simp [onW_t, onB_t, onB_f]; first | (refine hA ?_; clear hA hB A B) | (refine hB ?_; clear hA hB A B) | (refine onB_if (fun h => hA ?_) (fun h => hB ?_) <;> clear hA hB A B))
    | refine WP.q ?_ | refine WP.b ?_)
  refine WP_loop (fun n T s' => ∃ i : Nat, n + i = fs.length ∧ s' = s ∧ T.get 0 = .sl (fs.map Fc.cs) ∧ T.get 1 = .str p ∧ T.get 2 = .sl (row.map V.cs) ∧ T.get 7 = .int .i64 i ∧ hasE fs p row = hasE (fs.drop i) p row) fs.length ⟨0, by simp, rfl, by simp, by simp, by simp, by simp, by simp⟩ ?_
  rintro n T s' ⟨i, hn, rfl, h0, h1, h2, h7, hc⟩
  by_cases hi : i < fs.length
  · have hlt : ((i : Int) < (fs.length : Int)) := by omega
    have hw : IntKind.i64.wrap ((i : Int) + 1) = (i : Int) + 1 := wrap64 (by omega) (by simp only [LIM] at hfs; omega)
    have ha : fs[i]? = some fs[i] := List.getElem?_eq_getElem hi
    have hd : hasE (fs.drop i) p row = (fs[i].p == p && cmpT fs[i].a row == 0 || hasE (fs.drop (i + 1)) p row) := by rw [List.drop_eq_getElem_cons hi]; rfl
    have hfo := hok fs[i] (List.getElem_mem hi)
    generalize hf : fs[i] = f at *
    have hq := Q7_cmpT f.a row hfo hr
    rw [hc, hd]
    by_cases hp : f.p = p
    · have hp2 : (f.p == p) = true := by simp [hp]
      by_cases hz : cmpT f.a row = 0
      · have hz2 : (cmpT f.a row == 0) = true := by simp [hz]
        repeat' (first
          | refine WP.t ?_ | refine WP.k ?_ | refine WP.e ?_ | refine Qn ?_ | refine Qr ?_ | refine Qe ?_ | refine Bn ?_ | refine Br ?_ | refine Be ?_ | refine Bx (by decide) ?_
          | (refine RS.nl ?_; refine hk _ _ ?_; clear hk k)
          | ((first | refine RS.st fun A B hA hB => ?_ | refine RQ.st fun A B hA hB => ?_); simp [h0, h1, h2, h7, hlt, hi, ha, hf, hw, hq, Fc.cs, hp, hz, hz2, onW_t, onW_f, onV_s]; first | ((first | refine hA _ _ _ ?_ ?_ | refine hA _ _ _ ?_ (by first | exact .inl rfl | exact .inr (by decide)) ?_); (focus (simp [h0, h1, h2, h7, hlt, hi, ha, hf, hw, hq, Fc.cs, hp, hz, hz2] <;> omega)); clear hA hB A B) | (refine hB ?_; clear hA hB A B) | (refine onV_if ?_ ?_; (focus (first | omega | (refine ⟨?_, ?_⟩ <;> omega))); simp only [onV_s]; (first | refine hA _ _ _ ?_ ?_ | refine hA _ _ _ ?_ (by first | exact .inl rfl | exact .inr (by decide)) ?_); (focus (simp [h0, h1, h2, h7, hlt, hi, ha, hf, hw, hq, Fc.cs, hp, hz, hz2] <;> omega)); clear hA hB A B))
          | (refine RQ.nl ?_; refine hk _ _ ?_; clear hk k)
          | refine WP.sr fun k hk => ?_ | refine WP.r fun k hk => ?_
          | refine WP.sd _ rfl fun k hk => ?_ | refine WP.d _ rfl fun k hk => ?_
          | (refine WP.cc fun A B hA hB => ?_; simp [h0, h1, h2, h7, hlt, hi, ha, hf, hw, hq, Fc.cs, hp, hz, hz2, onB_t, onB_f]; first | (refine hA ?_; clear hA hB A B) | (refine hB ?_; clear hA hB A B) | (refine onB_if (fun h => hA ?_) (fun h => hB ?_) <;> clear hA hB A B))
          | refine WP.q ?_ | refine WP.b ?_)
        simp [hp, hz]
      · have hz2 : (cmpT f.a row == 0) = false := by simp [hz]
        repeat' (first
          | refine WP.t ?_ | refine WP.k ?_ | refine WP.e ?_ | refine Qn ?_ | refine Qr ?_ | refine Qe ?_ | refine Bn ?_ | refine Br ?_ | refine Be ?_ | refine Bx (by decide) ?_
          | (refine RS.nl ?_; refine hk _ _ ?_; clear hk k)
          | ((first | refine RS.st fun A B hA hB => ?_ | refine RQ.st fun A B hA hB => ?_); simp [h0, h1, h2, h7, hlt, hi, ha, hf, hw, hq, Fc.cs, hp, hz, hz2, onW_t, onW_f, onV_s]; first | ((first | refine hA _ _ _ ?_ ?_ | refine hA _ _ _ ?_ (by first | exact .inl rfl | exact .inr (by decide)) ?_); (focus (simp [h0, h1, h2, h7, hlt, hi, ha, hf, hw, hq, Fc.cs, hp, hz, hz2] <;> omega)); clear hA hB A B) | (refine hB ?_; clear hA hB A B) | (refine onV_if ?_ ?_; (focus (first | omega | (refine ⟨?_, ?_⟩ <;> omega))); simp only [onV_s]; (first | refine hA _ _ _ ?_ ?_ | refine hA _ _ _ ?_ (by first | exact .inl rfl | exact .inr (by decide)) ?_); (focus (simp [h0, h1, h2, h7, hlt, hi, ha, hf, hw, hq, Fc.cs, hp, hz, hz2] <;> omega)); clear hA hB A B))
          | (refine RQ.nl ?_; refine hk _ _ ?_; clear hk k)
          | refine WP.sr fun k hk => ?_ | refine WP.r fun k hk => ?_
          | refine WP.sd _ rfl fun k hk => ?_ | refine WP.d _ rfl fun k hk => ?_
          | (refine WP.cc fun A B hA hB => ?_; simp [h0, h1, h2, h7, hlt, hi, ha, hf, hw, hq, Fc.cs, hp, hz, hz2, onB_t, onB_f]; first | (refine hA ?_; clear hA hB A B) | (refine hB ?_; clear hA hB A B) | (refine onB_if (fun h => hA ?_) (fun h => hB ?_) <;> clear hA hB A B))
          | refine WP.q ?_ | refine WP.b ?_)
        exact ⟨n - 1, by omega, i + 1, by omega, rfl, by simp [h0], by simp [h1], by simp [h2], by simp, by simp [hp, hz]⟩
    · have hp2 : (f.p == p) = false := by simp [hp]
      repeat' (first
        | refine WP.t ?_ | refine WP.k ?_ | refine WP.e ?_ | refine Qn ?_ | refine Qr ?_ | refine Qe ?_ | refine Bn ?_ | refine Br ?_ | refine Be ?_ | refine Bx (by decide) ?_
        | (refine RS.nl ?_; refine hk _ _ ?_; clear hk k)
        | ((first | refine RS.st fun A B hA hB => ?_ | refine RQ.st fun A B hA hB => ?_); simp [h0, h1, h2, h7, hlt, hi, ha, hf, hw, Fc.cs, hp, hp2, onW_t, onW_f, onV_s]; first | ((first | refine hA _ _ _ ?_ ?_ | refine hA _ _ _ ?_ (by first | exact .inl rfl | exact .inr (by decide)) ?_); (focus (simp [h0, h1, h2, h7, hlt, hi, ha, hf, hw, Fc.cs, hp, hp2] <;> omega)); clear hA hB A B) | (refine hB ?_; clear hA hB A B) | (refine onV_if ?_ ?_; (focus (first | omega | (refine ⟨?_, ?_⟩ <;> omega))); simp only [onV_s]; (first | refine hA _ _ _ ?_ ?_ | refine hA _ _ _ ?_ (by first | exact .inl rfl | exact .inr (by decide)) ?_); (focus (simp [h0, h1, h2, h7, hlt, hi, ha, hf, hw, Fc.cs, hp, hp2] <;> omega)); clear hA hB A B))
        | (refine RQ.nl ?_; refine hk _ _ ?_; clear hk k)
        | refine WP.sr fun k hk => ?_ | refine WP.r fun k hk => ?_
        | refine WP.sd _ rfl fun k hk => ?_ | refine WP.d _ rfl fun k hk => ?_
        | (refine WP.cc fun A B hA hB => ?_; simp [h0, h1, h2, h7, hlt, hi, ha, hf, hw, Fc.cs, hp, hp2, onB_t, onB_f]; first | (refine hA ?_; clear hA hB A B) | (refine hB ?_; clear hA hB A B) | (refine onB_if (fun h => hA ?_) (fun h => hB ?_) <;> clear hA hB A B))
        | refine WP.q ?_ | refine WP.b ?_)
      exact ⟨n - 1, by omega, i + 1, by omega, rfl, by simp [h0], by simp [h1], by simp [h2], by simp, by simp [hp]⟩
  · have hlt : ¬ ((i : Int) < (fs.length : Int)) := by omega
    have hd : fs.drop i = [] := List.drop_eq_nil_of_le (by omega)
    rw [hc, hd]
    repeat' (first
      | refine WP.t ?_ | refine WP.k ?_ | refine WP.e ?_ | refine Qn ?_ | refine Qr ?_ | refine Qe ?_ | refine Bn ?_ | refine Br ?_ | refine Be ?_ | refine Bx (by decide) ?_
      | (refine RS.nl ?_; refine hk _ _ ?_; clear hk k)
      | ((first | refine RS.st fun A B hA hB => ?_ | refine RQ.st fun A B hA hB => ?_); simp [h0, h1, h2, h7, hlt, onW_t, onW_f, onV_s]; first | ((first | refine hA _ _ _ ?_ ?_ | refine hA _ _ _ ?_ (by first | exact .inl rfl | exact .inr (by decide)) ?_); (focus (simp [h0, h1, h2, h7, hlt] <;> omega)); clear hA hB A B) | (refine hB ?_; clear hA hB A B) | (refine onV_if ?_ ?_; (focus (first | omega | (refine ⟨?_, ?_⟩ <;> omega))); simp only [onV_s]; (first | refine hA _ _ _ ?_ ?_ | refine hA _ _ _ ?_ (by first | exact .inl rfl | exact .inr (by decide)) ?_); (focus (simp [h0, h1, h2, h7, hlt] <;> omega)); clear hA hB A B))
      | (refine RQ.nl ?_; refine hk _ _ ?_; clear hk k)
      | refine WP.sr fun k hk => ?_ | refine WP.r fun k hk => ?_
      | refine WP.sd _ rfl fun k hk => ?_ | refine WP.d _ rfl fun k hk => ?_
      | (refine WP.cc fun A B hA hB => ?_; simp [h0, h1, h2, h7, hlt, onB_t, onB_f]; first | (refine hA ?_; clear hA hB A B) | (refine hB ?_; clear hA hB A B) | (refine onB_if (fun h => hA ?_) (fun h => hB ?_) <;> clear hA hB A B))
      | refine WP.q ?_ | refine WP.b ?_)
    simp [hasE]
def Q8 : Fns := Q7.a3 71 (vSl cFc) vStr (vSl cV) fun fs p row => if fs.length < LIM ∧ (fs.all fun f => okR f.a) = true ∧ okR row = true then some (.bool (hasE fs p row)) else none
theorem Q8_ok : FOk (env K gw) Q8 := Q7_ok.a3 fun fs p row s r h => by
  split at h
  · rename_i hl; cases h; exact ft_RHas fs p row hl.1 (by simpa using hl.2.1) hl.2.2
  · cases h
theorem V.ext' {v u : V} (h1 : v.b = u.b) (h2 : v.s = u.s) (h3 : v.n = u.n) : v = u := by cases v; cases u; simp at h1 h2 h3; simp [*]
theorem kV : kindsT (env K gw) 9 42 = some [CK.b, CK.s, CK.i] := by simp [kindsT, kindsD, kindsFs, env_ti, ti42, ti4, ti9, ti2]
open Classical in
theorem ft_RTSame (x y : List V) (hx : x.length < LIM) (hy : y.length < LIM) : FT (env K gw) NoW 29 [.sl (x.map V.cs), .sl (y.map V.cs)] s (.bool (decide (x = y))) s := by
  refine FT.pure (fn := Tryz.f29) F0_ok mixed Tryz.func29 (by kernel_rfl) (by rfl) rfl rfl (by simp) rfl fun μ w => ?_
  by_cases hl : x.length = y.length
  · skip
    repeat' (first
      | refine WP.t ?_ | refine WP.k ?_ | refine WP.e ?_ | refine Qn ?_ | refine Qr ?_ | refine Qe ?_ | refine Bn ?_ | refine Br ?_ | refine Be ?_ | refine Bx (by decide) ?_
      | (refine RS.nl ?_; refine hk _ _ ?_; clear hk k)
      | ((first | refine RS.st fun A B hA hB => ?_ | refine RQ.st fun A B hA hB => ?_); simp [hl, onW_t, onW_f, onV_s]; first | ((first | refine hA _ _ _ ?_ ?_ | refine hA _ _ _ ?_ (by first | exact .inl rfl | exact .inr (by decide)) ?_); (focus (simp [hl] <;> omega)); clear hA hB A B) | (refine hB ?_; clear hA hB A B) | (refine onV_if ?_ ?_; (focus (first | omega | (refine ⟨?_, ?_⟩ <;> omega))); simp only [onV_s]; (first | refine hA _ _ _ ?_ ?_ | refine hA _ _ _ ?_ (by first | exact .inl rfl | exact .inr (by decide)) ?_); (focus (simp [hl] <;> omega)); clear hA hB A B))
      | (refine RQ.nl ?_; refine hk _ _ ?_; clear hk k)
      | refine WP.sr fun k hk => ?_ | refine WP.r fun k hk => ?_
      | refine WP.sd _ rfl fun k hk => ?_ | refine WP.d _ rfl fun k hk => ?_
      | (refine WP.cc fun A B hA hB => ?_; simp [hl, onB_t, onB_f]; first | (refine hA ?_; clear hA hB A B) | (refine hB ?_; clear hA hB A B) | (refine onB_if (fun h => hA ?_) (fun h => hB ?_) <;> clear hA hB A B))
      | refine WP.q ?_ | refine WP.b ?_)
    refine WP_loop (fun n T s' => ∃ i : Nat, n + i = x.length ∧ s' = s ∧ T.get 0 = .sl (x.map V.cs) ∧ T.get 1 = .sl (y.map V.cs) ∧ T.get 5 = .int .i64 i ∧ x.take i = y.take i) x.length ⟨0, by simp, rfl, by simp, by simp, by simp, by simp⟩ ?_
    rintro n T s' ⟨i, hn, rfl, h0, h1, h5, hc⟩
    by_cases hi : i < x.length
    · have hi' : i < y.length := by omega
      have hw : IntKind.i64.wrap ((i : Int) + 1) = (i : Int) + 1 := wrap64 (by omega) (by simp only [LIM] at hx; omega)
      have ha : x[i]? = some x[i] := List.getElem?_eq_getElem hi
      have hb : y[i]? = some y[i] := List.getElem?_eq_getElem hi'
      have t1 : x.take (i + 1) = x.take i ++ [x[i]] := List.take_succ_eq_append_getElem hi
      have t2 : y.take (i + 1) = y.take i ++ [y[i]] := List.take_succ_eq_append_getElem hi'
      repeat' (first
        | refine WP.t ?_ | refine WP.k ?_ | refine WP.e ?_ | refine Qn ?_ | refine Qr ?_ | refine Qe ?_ | refine Bn ?_ | refine Br ?_ | refine Be ?_ | refine Bx (by decide) ?_
        | (refine RS.nl ?_; refine hk _ _ ?_; clear hk k)
        | ((first | refine RS.st fun A B hA hB => ?_ | refine RQ.st fun A B hA hB => ?_); simp [h0, h1, h5, hi, hi', ha, hb, hw, V.cs, aindex, elemOfT, aeq, kV, AV.ck, avseq, aveq, onW_t, onW_f, onV_s]; first | ((first | refine hA _ _ _ ?_ ?_ | refine hA _ _ _ ?_ (by first | exact .inl rfl | exact .inr (by decide)) ?_); (focus (simp [h0, h1, h5, hi, hi', ha, hb, hw, V.cs, aindex, elemOfT, aeq, kV, AV.ck, avseq, aveq] <;> omega)); clear hA hB A B) | (refine hB ?_; clear hA hB A B) | (refine onV_if ?_ ?_; (focus (first | omega | (refine ⟨?_, ?_⟩ <;> omega))); simp only [onV_s]; (first | refine hA _ _ _ ?_ ?_ | refine hA _ _ _ ?_ (by first | exact .inl rfl | exact .inr (by decide)) ?_); (focus (simp [h0, h1, h5, hi, hi', ha, hb, hw, V.cs, aindex, elemOfT, aeq, kV, AV.ck, avseq, aveq] <;> omega)); clear hA hB A B))
        | (refine RQ.nl ?_; refine hk _ _ ?_; clear hk k)
        | refine WP.sr fun k hk => ?_ | refine WP.r fun k hk => ?_
        | refine WP.sd _ rfl fun k hk => ?_ | refine WP.d _ rfl fun k hk => ?_
        | (refine WP.cc fun A B hA hB => ?_; simp [h0, h1, h5, hi, hi', ha, hb, hw, V.cs, aindex, elemOfT, aeq, kV, AV.ck, avseq, aveq, onB_t, onB_f]; first | (refine hA ?_; clear hA hB A B) | (refine hB ?_; clear hA hB A B) | (refine onB_if (fun h => hA ?_) (fun h => hB ?_) <;> clear hA hB A B))
        | refine WP.q ?_ | refine WP.b ?_)
      · have hne : ¬ x = y := by
          intro e
          have : x[i] = y[i] := by simp only [e]
          rw [this] at h
          simp at h
        simp [hne]
      · have he : x[i] = y[i] := by
          simp at h
          exact V.ext' h.1 h.2.1 h.2.2
        exact ⟨n - 1, by omega, i + 1, by omega, rfl, by simp [h0], by simp [h1], by simp, by rw [t1, t2, hc, he]⟩
    · have he : x = y := by
        have e1 : i = x.length := by omega
        have e2 : i = y.length := by omega
        have h3 : x.take i = x := by rw [e1, List.take_length]
        have h4 : y.take i = y := by rw [e2, List.take_length]
        rw [← h3, ← h4, hc]
      have hi' : ¬ i < y.length := by omega
      repeat' (first
        | refine WP.t ?_ | refine WP.k ?_ | refine WP.e ?_ | refine Qn ?_ | refine Qr ?_ | refine Qe ?_ | refine Bn ?_ | refine Br ?_ | refine Be ?_ | refine Bx (by decide) ?_
        | (refine RS.nl ?_; refine hk _ _ ?_; clear hk k)
        | ((first | refine RS.st fun A B hA hB => ?_ | refine RQ.st fun A B hA hB => ?_); simp [h0, h1, h5, hi, hi', onW_t, onW_f, onV_s]; first | ((first | refine hA _ _ _ ?_ ?_ | refine hA _ _ _ ?_ (by first | exact .inl rfl | exact .inr (by decide)) ?_); (focus (simp [h0, h1, h5, hi, hi'] <;> omega)); clear hA hB A B) | (refine hB ?_; clear hA hB A B) | (refine onV_if ?_ ?_; (focus (first | omega | (refine ⟨?_, ?_⟩ <;> omega))); simp only [onV_s]; (first | refine hA _ _ _ ?_ ?_ | refine hA _ _ _ ?_ (by first | exact .inl rfl | exact .inr (by decide)) ?_); (focus (simp [h0, h1, h5, hi, hi'] <;> omega)); clear hA hB A B))
        | (refine RQ.nl ?_; refine hk _ _ ?_; clear hk k)
        | refine WP.sr fun k hk => ?_ | refine WP.r fun k hk => ?_
        | refine WP.sd _ rfl fun k hk => ?_ | refine WP.d _ rfl fun k hk => ?_
        | (refine WP.cc fun A B hA hB => ?_; simp [h0, h1, h5, hi, hi', onB_t, onB_f]; first | (refine hA ?_; clear hA hB A B) | (refine hB ?_; clear hA hB A B) | (refine onB_if (fun h => hA ?_) (fun h => hB ?_) <;> clear hA hB A B))
        | refine WP.q ?_ | refine WP.b ?_)
      simp [he]
  · have hl' : ¬ y.length = x.length := fun e => hl e.symm
    have hne : ¬ x = y := by rintro rfl; exact hl rfl
    have hb : ((x.length : Int) != (y.length : Int)) = true := by rw [bne_iff_ne]; omega
    repeat' (first
      | refine WP.t ?_ | refine WP.k ?_ | refine WP.e ?_ | refine Qn ?_ | refine Qr ?_ | refine Qe ?_ | refine Bn ?_ | refine Br ?_ | refine Be ?_ | refine Bx (by decide) ?_
      | (refine RS.nl ?_; refine hk _ _ ?_; clear hk k)
      | ((first | refine RS.st fun A B hA hB => ?_ | refine RQ.st fun A B hA hB => ?_); simp [hl, hl', hb, onW_t, onW_f, onV_s]; first | ((first | refine hA _ _ _ ?_ ?_ | refine hA _ _ _ ?_ (by first | exact .inl rfl | exact .inr (by decide)) ?_); (focus (simp [hl, hl', hb] <;> omega)); clear hA hB A B) | (refine hB ?_; clear hA hB A B) | (refine onV_if ?_ ?_; (focus (first | omega | (refine ⟨?_, ?_⟩ <;> omega))); simp only [onV_s]; (first | refine hA _ _ _ ?_ ?_ | refine hA _ _ _ ?_ (by first | exact .inl rfl | exact .inr (by decide)) ?_); (focus (simp [hl, hl', hb] <;> omega)); clear hA hB A B))
      | (refine RQ.nl ?_; refine hk _ _ ?_; clear hk k)
      | refine WP.sr fun k hk => ?_ | refine WP.r fun k hk => ?_
      | refine WP.sd _ rfl fun k hk => ?_ | refine WP.d _ rfl fun k hk => ?_
      | (refine WP.cc fun A B hA hB => ?_; simp [hl, hl', hb, onB_t, onB_f]; first | (refine hA ?_; clear hA hB A B) | (refine hB ?_; clear hA hB A B) | (refine onB_if (fun h => hA ?_) (fun h => hB ?_) <;> clear hA hB A B))
      | refine WP.q ?_ | refine WP.b ?_)
    simp [hne]
open Classical in
noncomputable def Q9 : Fns := Q8.a2 29 (vSl cV) (vSl cV) fun x y => if x.length < LIM ∧ y.length < LIM then some (.bool (decide (x = y))) else none
theorem Q9_ok : FOk (env K gw) Q9 := Q8_ok.a2 fun x y s r h => by
  split at h
  · rename_i hl; cases h; exact ft_RTSame x y hl.1 hl.2
  · cases h
open Classical in
theorem Q9_same (x y : List V) (hx : x.length < LIM) (hy : y.length < LIM) (s2 : St) : Q9 29 [.sl (x.map V.cs), .sl (y.map V.cs)] s2 = some (.bool (decide (x = y)), s2, []) := by
  have h1 : (vSl cV).dec (.sl (x.map V.cs)) = some x := (vSl cV).dec_enc x
  have h2 : (vSl cV).dec (.sl (y.map V.cs)) = some y := (vSl cV).dec_enc y
  simp [Q9, h1, h2, hx, hy]
theorem Fc.ext' {f g : Fc} (h1 : f.p = g.p) (h2 : f.a = g.a) : f = g := by cases f; cases g; simp at h1 h2; simp [*]
open Classical in
set_option maxRecDepth 20000 in
set_option maxHeartbeats 4000000 in
theorem ft_RFacts (x y : List Fc) (hx : x.length < LIM) (hxa : ∀ f ∈ x, f.a.length < LIM) (hya : ∀ f ∈ y, f.a.length < LIM) : FT (env K gw) NoW 15 [.sl (x.map Fc.cs), .sl (y.map Fc.cs)] s (.bool (decide (x = y))) s := by
  refine FT.pure (fn := Tryz.f15) Q9_ok mixed Tryz.func15 (by kernel_rfl) (by rfl) rfl rfl (by simp) rfl fun μ w => ?_
  by_cases hl : x.length = y.length
  · have hb0 : ((x.length : Int) != (y.length : Int)) = false := by rw [bne_eq_false_iff_eq]; omega
    repeat' (first
      | refine WP.t ?_ | refine WP.k ?_ | refine WP.e ?_ | refine Qn ?_ | refine Qr ?_ | refine Qe ?_ | refine Bn ?_ | refine Br ?_ | refine Be ?_ | refine Bx (by decide) ?_
      | (refine RS.nl ?_; refine hk _ _ ?_; clear hk k)
      | ((first | refine RS.st fun A B hA hB => ?_ | refine RQ.st fun A B hA hB => ?_); simp [hl, hb0, onW_t, onW_f, onV_s]; first | ((first | refine hA _ _ _ ?_ ?_ | refine hA _ _ _ ?_ (by first | exact .inl rfl | exact .inr (by decide)) ?_); (focus (simp [hl, hb0] <;> omega)); clear hA hB A B) | (refine hB ?_; clear hA hB A B) | (refine onV_if ?_ ?_; (focus (first | omega | (refine ⟨?_, ?_⟩ <;> omega))); simp only [onV_s]; (first | refine hA _ _ _ ?_ ?_ | refine hA _ _ _ ?_ (by first | exact .inl rfl | exact .inr (by decide)) ?_); (focus (simp [hl, hb0] <;> omega)); clear hA hB A B))
      | (refine RQ.nl ?_; refine hk _ _ ?_; clear hk k)
      | refine WP.sr fun k hk => ?_ | refine WP.r fun k hk => ?_
      | refine WP.sd _ rfl fun k hk => ?_ | refine WP.d _ rfl fun k hk => ?_
      | (refine WP.cc fun A B hA hB => ?_; simp [hl, hb0, onB_t, onB_f]; first | (refine hA ?_; clear hA hB A B) | (refine hB ?_; clear hA hB A B) | (refine onB_if (fun h => hA ?_) (fun h => hB ?_) <;> clear hA hB A B))
      | refine WP.q ?_ | refine WP.b ?_)
    refine WP_loop (fun n T s' => ∃ i : Nat, n + i = x.length ∧ s' = s ∧ T.get 0 = .sl (x.map Fc.cs) ∧ T.get 1 = .sl (y.map Fc.cs) ∧ T.get 5 = .int .i64 i ∧ x.take i = y.take i) x.length ⟨0, by simp, rfl, by simp, by simp, by simp, by simp⟩ ?_
    rintro n T s' ⟨i, hn, rfl, h0, h1, h5, hc⟩
    by_cases hi : i < x.length
    · have hi' : i < y.length := by omega
      have hlt : ((i : Int) < (x.length : Int)) := by omega
      have hw : IntKind.i64.wrap ((i : Int) + 1) = (i : Int) + 1 := wrap64 (by omega) (by simp only [LIM] at hx; omega)
      have ha : x[i]? = some x[i] := List.getElem?_eq_getElem hi
      have hb : y[i]? = some y[i] := List.getElem?_eq_getElem hi'
      have t1 : x.take (i + 1) = x.take i ++ [x[i]] := List.take_succ_eq_append_getElem hi
      have t2 : y.take (i + 1) = y.take i ++ [y[i]] := List.take_succ_eq_append_getElem hi'
      have hq := Q9_same x[i].a y[i].a (hxa _ (List.getElem_mem hi)) (hya _ (List.getElem_mem hi'))
      have hxy : x = y → x[i] = y[i] := fun e => by simp only [e]
      generalize hf : x[i] = f at *
      generalize hg : y[i] = g at *
      by_cases hp : f.p = g.p
      · have hp2 : (f.p != g.p) = false := by simp [hp]
        by_cases hz : f.a = g.a
        · have hz2 : decide (f.a = g.a) = true := by simp [hz]
          rw [hz2] at hq
          repeat' (first
            | refine WP.t ?_ | refine WP.k ?_ | refine WP.e ?_ | refine Qn ?_ | refine Qr ?_ | refine Qe ?_ | refine Bn ?_ | refine Br ?_ | refine Be ?_ | refine Bx (by decide) ?_
            | (refine RS.nl ?_; refine hk _ _ ?_; clear hk k)
            | ((first | refine RS.st fun A B hA hB => ?_ | refine RQ.st fun A B hA hB => ?_); simp [h0, h1, h5, hlt, hi, hi', ha, hb, hf, hg, hw, Fc.cs, hp, hp2, hq, onW_t, onW_f, onV_s]; first | ((first | refine hA _ _ _ ?_ ?_ | refine hA _ _ _ ?_ (by first | exact .inl rfl | exact .inr (by decide)) ?_); (focus (simp [h0, h1, h5, hlt, hi, hi', ha, hb, hf, hg, hw, Fc.cs, hp, hp2, hq] <;> omega)); clear hA hB A B) | (refine hB ?_; clear hA hB A B) | (refine onV_if ?_ ?_; (focus (first | omega | (refine ⟨?_, ?_⟩ <;> omega))); simp only [onV_s]; (first | refine hA _ _ _ ?_ ?_ | refine hA _ _ _ ?_ (by first | exact .inl rfl | exact .inr (by decide)) ?_); (focus (simp [h0, h1, h5, hlt, hi, hi', ha, hb, hf, hg, hw, Fc.cs, hp, hp2, hq] <;> omega)); clear hA hB A B))
            | (refine RQ.nl ?_; refine hk _ _ ?_; clear hk k)
            | refine WP.sr fun k hk => ?_ | refine WP.r fun k hk => ?_
            | refine WP.sd _ rfl fun k hk => ?_ | refine WP.d _ rfl fun k hk => ?_
            | (refine WP.cc fun A B hA hB => ?_; simp [h0, h1, h5, hlt, hi, hi', ha, hb, hf, hg, hw, Fc.cs, hp, hp2, hq, onB_t, onB_f]; first | (refine hA ?_; clear hA hB A B) | (refine hB ?_; clear hA hB A B) | (refine onB_if (fun h => hA ?_) (fun h => hB ?_) <;> clear hA hB A B))
            | refine WP.q ?_ | refine WP.b ?_)
          exact ⟨n - 1, by omega, i + 1, by omega, rfl, by simp [h0], by simp [h1], by simp, by rw [t1, t2, hc, Fc.ext' hp hz]⟩
        · have hz2 : decide (f.a = g.a) = false := by simp [hz]
          have hne : ¬ x = y := fun e => hz (by rw [hxy e])
          rw [hz2] at hq
          repeat' (first
            | refine WP.t ?_ | refine WP.k ?_ | refine WP.e ?_ | refine Qn ?_ | refine Qr ?_ | refine Qe ?_ | refine Bn ?_ | refine Br ?_ | refine Be ?_ | refine Bx (by decide) ?_
            | (refine RS.nl ?_; refine hk _ _ ?_; clear hk k)
            | ((first | refine RS.st fun A B hA hB => ?_ | refine RQ.st fun A B hA hB => ?_); simp [h0, h1, h5, hlt, hi, hi', ha, hb, hf, hg, hw, Fc.cs, hp, hp2, hq, onW_t, onW_f, onV_s]; first | ((first | refine hA _ _ _ ?_ ?_ | refine hA _ _ _ ?_ (by first | exact .inl rfl | exact .inr (by decide)) ?_); (focus (simp [h0, h1, h5, hlt, hi, hi', ha, hb, hf, hg, hw, Fc.cs, hp, hp2, hq] <;> omega)); clear hA hB A B) | (refine hB ?_; clear hA hB A B) | (refine onV_if ?_ ?_; (focus (first | omega | (refine ⟨?_, ?_⟩ <;> omega))); simp only [onV_s]; (first | refine hA _ _ _ ?_ ?_ | refine hA _ _ _ ?_ (by first | exact .inl rfl | exact .inr (by decide)) ?_); (focus (simp [h0, h1, h5, hlt, hi, hi', ha, hb, hf, hg, hw, Fc.cs, hp, hp2, hq] <;> omega)); clear hA hB A B))
            | (refine RQ.nl ?_; refine hk _ _ ?_; clear hk k)
            | refine WP.sr fun k hk => ?_ | refine WP.r fun k hk => ?_
            | refine WP.sd _ rfl fun k hk => ?_ | refine WP.d _ rfl fun k hk => ?_
            | (refine WP.cc fun A B hA hB => ?_; simp [h0, h1, h5, hlt, hi, hi', ha, hb, hf, hg, hw, Fc.cs, hp, hp2, hq, onB_t, onB_f]; first | (refine hA ?_; clear hA hB A B) | (refine hB ?_; clear hA hB A B) | (refine onB_if (fun h => hA ?_) (fun h => hB ?_) <;> clear hA hB A B))
            | refine WP.q ?_ | refine WP.b ?_)
          simp [hne]
      · have hp2 : (f.p == g.p) = false := by simp [hp]
        have hne : ¬ x = y := fun e => hp (by rw [hxy e])
        repeat' (first
          | refine WP.t ?_ | refine WP.k ?_ | refine WP.e ?_ | refine Qn ?_ | refine Qr ?_ | refine Qe ?_ | refine Bn ?_ | refine Br ?_ | refine Be ?_ | refine Bx (by decide) ?_
          | (refine RS.nl ?_; refine hk _ _ ?_; clear hk k)
          | ((first | refine RS.st fun A B hA hB => ?_ | refine RQ.st fun A B hA hB => ?_); simp [h0, h1, h5, hlt, hi, hi', ha, hb, hf, hg, hw, Fc.cs, hp, hp2, onW_t, onW_f, onV_s]; first | ((first | refine hA _ _ _ ?_ ?_ | refine hA _ _ _ ?_ (by first | exact .inl rfl | exact .inr (by decide)) ?_); (focus (simp [h0, h1, h5, hlt, hi, hi', ha, hb, hf, hg, hw, Fc.cs, hp, hp2] <;> omega)); clear hA hB A B) | (refine hB ?_; clear hA hB A B) | (refine onV_if ?_ ?_; (focus (first | omega | (refine ⟨?_, ?_⟩ <;> omega))); simp only [onV_s]; (first | refine hA _ _ _ ?_ ?_ | refine hA _ _ _ ?_ (by first | exact .inl rfl | exact .inr (by decide)) ?_); (focus (simp [h0, h1, h5, hlt, hi, hi', ha, hb, hf, hg, hw, Fc.cs, hp, hp2] <;> omega)); clear hA hB A B))
          | (refine RQ.nl ?_; refine hk _ _ ?_; clear hk k)
          | refine WP.sr fun k hk => ?_ | refine WP.r fun k hk => ?_
          | refine WP.sd _ rfl fun k hk => ?_ | refine WP.d _ rfl fun k hk => ?_
          | (refine WP.cc fun A B hA hB => ?_; simp [h0, h1, h5, hlt, hi, hi', ha, hb, hf, hg, hw, Fc.cs, hp, hp2, onB_t, onB_f]; first | (refine hA ?_; clear hA hB A B) | (refine hB ?_; clear hA hB A B) | (refine onB_if (fun h => hA ?_) (fun h => hB ?_) <;> clear hA hB A B))
          | refine WP.q ?_ | refine WP.b ?_)
        simp [hne]
    · have he : x = y := by
        have e1 : i = x.length := by omega
        have e2 : i = y.length := by omega
        have h3 : x.take i = x := by rw [e1, List.take_length]
        have h4 : y.take i = y := by rw [e2, List.take_length]
        rw [← h3, ← h4, hc]
      have hlt : ¬ ((i : Int) < (x.length : Int)) := by omega
      repeat' (first
        | refine WP.t ?_ | refine WP.k ?_ | refine WP.e ?_ | refine Qn ?_ | refine Qr ?_ | refine Qe ?_ | refine Bn ?_ | refine Br ?_ | refine Be ?_ | refine Bx (by decide) ?_
        | (refine RS.nl ?_; refine hk _ _ ?_; clear hk k)
        | ((first | refine RS.st fun A B hA hB => ?_ | refine RQ.st fun A B hA hB => ?_); simp [h0, h1, h5, hlt, onW_t, onW_f, onV_s]; first | ((first | refine hA _ _ _ ?_ ?_ | refine hA _ _ _ ?_ (by first | exact .inl rfl | exact .inr (by decide)) ?_); (focus (simp [h0, h1, h5, hlt] <;> omega)); clear hA hB A B) | (refine hB ?_; clear hA hB A B) | (refine onV_if ?_ ?_; (focus (first | omega | (refine ⟨?_, ?_⟩ <;> omega))); simp only [onV_s]; (first | refine hA _ _ _ ?_ ?_ | refine hA _ _ _ ?_ (by first | exact .inl rfl | exact .inr (by decide)) ?_); (focus (simp [h0, h1, h5, hlt] <;> omega)); clear hA hB A B))
        | (refine RQ.nl ?_; refine hk _ _ ?_; clear hk k)
        | refine WP.sr fun k hk => ?_ | refine WP.r fun k hk => ?_
        | refine WP.sd _ rfl fun k hk => ?_ | refine WP.d _ rfl fun k hk => ?_
        | (refine WP.cc fun A B hA hB => ?_; simp [h0, h1, h5, hlt, onB_t, onB_f]; first | (refine hA ?_; clear hA hB A B) | (refine hB ?_; clear hA hB A B) | (refine onB_if (fun h => hA ?_) (fun h => hB ?_) <;> clear hA hB A B))
        | refine WP.q ?_ | refine WP.b ?_)
      simp [he]
  · have hne : ¬ x = y := by rintro rfl; exact hl rfl
    have hb : ((x.length : Int) != (y.length : Int)) = true := by rw [bne_iff_ne]; omega
    repeat' (first
      | refine WP.t ?_ | refine WP.k ?_ | refine WP.e ?_ | refine Qn ?_ | refine Qr ?_ | refine Qe ?_ | refine Bn ?_ | refine Br ?_ | refine Be ?_ | refine Bx (by decide) ?_
      | (refine RS.nl ?_; refine hk _ _ ?_; clear hk k)
      | ((first | refine RS.st fun A B hA hB => ?_ | refine RQ.st fun A B hA hB => ?_); simp [hl, hb, onW_t, onW_f, onV_s]; first | ((first | refine hA _ _ _ ?_ ?_ | refine hA _ _ _ ?_ (by first | exact .inl rfl | exact .inr (by decide)) ?_); (focus (simp [hl, hb] <;> omega)); clear hA hB A B) | (refine hB ?_; clear hA hB A B) | (refine onV_if ?_ ?_; (focus (first | omega | (refine ⟨?_, ?_⟩ <;> omega))); simp only [onV_s]; (first | refine hA _ _ _ ?_ ?_ | refine hA _ _ _ ?_ (by first | exact .inl rfl | exact .inr (by decide)) ?_); (focus (simp [hl, hb] <;> omega)); clear hA hB A B))
      | (refine RQ.nl ?_; refine hk _ _ ?_; clear hk k)
      | refine WP.sr fun k hk => ?_ | refine WP.r fun k hk => ?_
      | refine WP.sd _ rfl fun k hk => ?_ | refine WP.d _ rfl fun k hk => ?_
      | (refine WP.cc fun A B hA hB => ?_; simp [hl, hb, onB_t, onB_f]; first | (refine hA ?_; clear hA hB A B) | (refine hB ?_; clear hA hB A B) | (refine onB_if (fun h => hA ?_) (fun h => hB ?_) <;> clear hA hB A B))
      | refine WP.q ?_ | refine WP.b ?_)
    simp [hne]
end
end Go.Am
namespace Go.Am
open Go.Proofs
/-! ### the reference: environments -/
theorem getE_drop {e : Envr} {nm : Str} {i : Nat} (h : i < e.length) : getE (e.drop i) nm = if e[i].k == nm then some e[i].v else getE (e.drop (i + 1)) nm := by
  unfold getE
  rw [List.drop_eq_getElem_cons h, List.find?_cons]
  by_cases hk : (e[i].k == nm) = true
  · simp [hk]
  · simp only [Bool.not_eq_true] at hk
    simp [hk]
theorem getE_ne {e : Envr} {nm : Str} (h : getE e nm = none) {i : Nat} (hi : i < e.length) : (e[i].k == nm) = false := by
  unfold getE at h
  simpa using List.find?_eq_none.1 (Option.map_eq_none_iff.1 h) e[i] (List.getElem_mem hi)
theorem withAt_lo {e : Envr} {nm : Str} {i : Nat} (hi : i < e.length) (h : i < withAt e nm) : gtS e[i].k nm = false := by
  unfold withAt at h
  cases hf : e.findIdx? fun p => gtS p.k nm with
  | none => simpa using List.findIdx?_eq_none_iff.1 hf _ (List.getElem_mem hi)
  | some j =>
    rw [hf] at h
    obtain ⟨_, _, h2⟩ := List.findIdx?_eq_some_iff_getElem.1 hf
    simpa using h2 i h
theorem withAt_at {e : Envr} {nm : Str} {i : Nat} (hi : i < e.length) (h : i = withAt e nm) : gtS e[i].k nm = true := by
  unfold withAt at h
  cases hf : e.findIdx? fun p => gtS p.k nm with
  | none => rw [hf] at h; simp at h; omega
  | some j =>
    rw [hf] at h
    simp at h
    subst h
    obtain ⟨_, h1, _⟩ := List.findIdx?_eq_some_iff_getElem.1 hf
    exact h1
def accW (e : Envr) (A : Nat) (p : Pr) (i : Nat) : Envr := if i ≤ A then e.take i else (insR e A p).take (i + 1)
theorem accW_lt {e : Envr} {A : Nat} {p : Pr} {i : Nat} (h : i < A) (hi : i < e.length) : accW e A p (i + 1) = accW e A p i ++ [e[i]] := by
  unfold accW
  rw [if_pos (by omega), if_pos (by omega)]
  exact List.take_succ_eq_append_getElem hi
theorem insR_get {e : Envr} {A : Nat} {p : Pr} (hA : A ≤ e.length) {i : Nat} (h : A ≤ i) (hi : i < e.length) : ∃ h2 : i + 1 < (insR e A p).length, (insR e A p)[i + 1] = e[i] := by
  refine ⟨by rw [insR_len _ _ _ hA]; omega, ?_⟩
  have : (insR e A p)[i + 1]? = some e[i] := by
    unfold insR
    rw [List.getElem?_append_right (by simp; omega)]
    have : i + 1 - (e.take A).length = (i - A) + 1 := by simp; omega
    rw [this, List.getElem?_cons_succ, List.getElem?_drop]
    have : A + (i - A) = i := by omega
    rw [this, List.getElem?_eq_getElem hi]
  rw [List.getElem?_eq_some_iff] at this
  exact this.2
theorem accW_gt {e : Envr} {A : Nat} {p : Pr} {i : Nat} (h : A < i) (hi : i < e.length) : accW e A p (i + 1) = accW e A p i ++ [e[i]] := by
  unfold accW
  rw [if_neg (by omega), if_neg (by omega)]
  obtain ⟨h2, h3⟩ := insR_get (p := p) (Nat.le_of_lt (Nat.lt_trans h hi)) (Nat.le_of_lt h) hi
  rw [List.take_succ_eq_append_getElem h2, h3]
theorem accW_at {e : Envr} {A : Nat} {p : Pr} {i : Nat} (h : i = A) (hi : i < e.length) : accW e A p (i + 1) = accW e A p i ++ [p, e[i]] := by
  subst h
  unfold accW
  rw [if_neg (by omega), if_pos (by omega)]
  obtain ⟨h2, h3⟩ := insR_get (p := p) (Nat.le_of_lt hi) (Nat.le_refl _) hi
  rw [List.take_succ_eq_append_getElem h2, h3]
  have : (insR e i p).take (i + 1) = e.take i ++ [p] := by
    unfold insR
    have hl : (e.take i).length = i := by simp; omega
    rw [List.take_append, hl, List.take_of_length_le (by omega)]
    have : i + 1 - i = 1 := by omega
    rw [this]; rfl
  rw [this, List.append_assoc]; rfl
theorem accW_end {e : Envr} {A : Nat} {p : Pr} (hA : A ≤ e.length) : insR e A p = if A < e.length then accW e A p e.length else accW e A p e.length ++ [p] := by
  unfold accW
  split
  · rw [if_neg (by omega), List.take_of_length_le (by rw [insR_len _ _ _ hA]; omega)]
  · have : A = e.length := by omega
    subst this
    rw [if_pos (by omega)]
    simp [insR]
theorem accW_len {e : Envr} {A : Nat} {p : Pr} {i : Nat} (hA : A ≤ e.length) (hi : i ≤ e.length) : (accW e A p i).length = if i ≤ A then i else i + 1 := by
  unfold accW
  split
  · simp; omega
  · simp [insR_len _ _ _ hA]; omega
section
variable {K : Nat} {gw : World} {s : St}
attribute [local simp] awanted xop zOf cz zrow aop ev T0 Slots.put Slots.set Slots.get awr WOk AV.may ofConst abinop aint isConst St.get_push St.get_put St.live AV.fit AV.cells AV.one fieldOf afieldAddr aload ofCells astore splice May eqres env_ti FinP FinZ FinW ares aresL ares1 Fns.addP Fns.add Fns.a0 Fns.a1 Fns.a2 Fns.a3 Fns.a4 abuiltin alenOk alen aindex elemOfT elemId abuildSlice afill chunks ard aappend isSS AV.isStr aminmax placesOf abuild afield aidx isStrD isStrDesc astrop aslice asliceOk abound arange anext aextract aunop aeq AV.ck avseq aveq aconv aconvert onB_t onB_f List.range_succ
theorem ft_RGet (e : Envr) (nm : Str) (hl : e.length < LIM) : FT (env K gw) NoW 74 [.sl (e.map Pr.cs), .str nm] s (tupV (getE e nm)) s := by
  refine FT.pure (fn := Tryz.f74) F0_ok mixed Tryz.func74 (by kernel_rfl) (by rfl) rfl rfl (by simp) rfl fun μ w => ?_
  repeat' (first
    | refine WP.t ?_ | refine WP.k ?_ | refine WP.e ?_ | refine Qn ?_ | refine Qr ?_ | refine Qe ?_ | refine Bn ?_ | refine Br ?_ | refine Be ?_ | refine Bx (by decide) ?_
    | (refine RS.nl ?_; refine hk _ _ ?_; clear hk k)
    | ((first | refine RS.st fun A B hA hB => ?_ | refine RQ.st fun A B hA hB => ?_); simp [onW_t, onW_t, onW_f, onV_s]; first | ((first | refine hA _ _ _ ?_ ?_ | refine hA _ _ _ ?_ (by first | exact .inl rfl | exact .inr (by decide)) ?_); (focus (simp [onW_t] <;> omega)); clear hA hB A B) | (refine hB ?_; clear hA hB A B) | (refine onV_if ?_ ?_; (focus (first | omega | (refine ⟨?_, ?_⟩ <;> omega))); simp only [onV_s]; (first | refine hA _ _ _ ?_ ?_ | refine hA _ _ _ ?_ (by first | exact .inl rfl | exact .inr (by decide)) ?_); (focus (simp [onW_t] <;> omega)); clear hA hB A B))
    | (refine RQ.nl ?_; refine hk _ _ ?_; clear hk k)
    | refine WP.sr fun k hk => ?_ | refine WP.r fun k hk => ?_
    | refine WP.sd _ rfl fun k hk => ?_ | refine WP.d _ rfl fun k hk => ?_
    | (refine WP.cc fun A B hA hB => ?_; simp [onW_t, onB_t, onB_f]; first | (refine hA ?_; clear hA hB A B) | (refine hB ?_; clear hA hB A B) | (refine onB_if (fun h => hA ?_) (fun h => hB ?_) <;> clear hA hB A B))
    | refine WP.q ?_ | refine WP.b ?_)
  refine WP_loop (fun n T s' => ∃ i : Nat, n + i = e.length ∧ s.nx < s'.nx ∧ (∃ x, s'.get s.nx = some (.var 42 x) ∧ x.length = 3) ∧ T.get 0 = .sl (e.map Pr.cs) ∧ T.get 1 = .str nm ∧ T.get 4 = .ptr s.nx 0 ∧ T.get 6 = .int .i64 i ∧ getE e nm = getE (e.drop i) nm) e.length ⟨0, by simp, by simp, ⟨_, by simp [St.get_push]; rfl, rfl⟩, by simp, by simp, by simp, by simp, by simp⟩ ?_
  rintro n T s' ⟨i, hn, hnx, ⟨x, hx, hxl⟩, h0, h1, h4, h6, hc⟩
  by_cases hi : i < e.length
  · have hlt : ((i : Int) < (e.length : Int)) := by omega
    have hw : IntKind.i64.wrap ((i : Int) + 1) = (i : Int) + 1 := wrap64 (by omega) (by simp only [LIM] at hl; omega)
    have ha : e[i]? = some e[i] := List.getElem?_eq_getElem hi
    rw [getE_drop hi] at hc
    generalize hv : e[i] = v at *
    cases hz : (v.k == nm) with
    | true =>
      rw [hz] at hc
      repeat' (first
        | refine WP.t ?_ | refine WP.k ?_ | refine WP.e ?_ | refine Qn ?_ | refine Qr ?_ | refine Qe ?_ | refine Bn ?_ | refine Br ?_ | refine Be ?_ | refine Bx (by decide) ?_
        | (refine RS.nl ?_; refine hk _ _ ?_; clear hk k)
        | ((first | refine RS.st fun A B hA hB => ?_ | refine RQ.st fun A B hA hB => ?_); simp [h0, h1, h4, h6, hlt, hi, ha, hv, hx, hxl, hnx, hz, Pr.cs, onW_t, onW_f, onV_s]; first | ((first | refine hA _ _ _ ?_ ?_ | refine hA _ _ _ ?_ (by first | exact .inl rfl | exact .inr (by decide)) ?_); (focus (simp [h0, h1, h4, h6, hlt, hi, ha, hv, hx, hxl, hnx, hz, Pr.cs] <;> omega)); clear hA hB A B) | (refine hB ?_; clear hA hB A B) | (refine onV_if ?_ ?_; (focus (first | omega | (refine ⟨?_, ?_⟩ <;> omega))); simp only [onV_s]; (first | refine hA _ _ _ ?_ ?_ | refine hA _ _ _ ?_ (by first | exact .inl rfl | exact .inr (by decide)) ?_); (focus (simp [h0, h1, h4, h6, hlt, hi, ha, hv, hx, hxl, hnx, hz, Pr.cs] <;> omega)); clear hA hB A B))
        | (refine RQ.nl ?_; refine hk _ _ ?_; clear hk k)
        | refine WP.sr fun k hk => ?_ | refine WP.r fun k hk => ?_
        | refine WP.sd _ rfl fun k hk => ?_ | refine WP.d _ rfl fun k hk => ?_
        | (refine WP.cc fun A B hA hB => ?_; simp [h0, h1, h4, h6, hlt, hi, ha, hv, hx, hxl, hnx, hz, Pr.cs, onB_t, onB_f]; first | (refine hA ?_; clear hA hB A B) | (refine hB ?_; clear hA hB A B) | (refine onB_if (fun h => hA ?_) (fun h => hB ?_) <;> clear hA hB A B))
        | refine WP.q ?_ | refine WP.b ?_)
      rw [hc, if_pos rfl]
      simp [tupV_some, V.cs, hnx, h4, hxl]
    | false =>
      rw [hz] at hc
      repeat' (first
        | refine WP.t ?_ | refine WP.k ?_ | refine WP.e ?_ | refine Qn ?_ | refine Qr ?_ | refine Qe ?_ | refine Bn ?_ | refine Br ?_ | refine Be ?_ | refine Bx (by decide) ?_
        | (refine RS.nl ?_; refine hk _ _ ?_; clear hk k)
        | ((first | refine RS.st fun A B hA hB => ?_ | refine RQ.st fun A B hA hB => ?_); simp [h0, h1, h4, h6, hlt, hi, ha, hv, hx, hxl, hnx, hz, hw, Pr.cs, onW_t, onW_f, onV_s]; first | ((first | refine hA _ _ _ ?_ ?_ | refine hA _ _ _ ?_ (by first | exact .inl rfl | exact .inr (by decide)) ?_); (focus (simp [h0, h1, h4, h6, hlt, hi, ha, hv, hx, hxl, hnx, hz, hw, Pr.cs] <;> omega)); clear hA hB A B) | (refine hB ?_; clear hA hB A B) | (refine onV_if ?_ ?_; (focus (first | omega | (refine ⟨?_, ?_⟩ <;> omega))); simp only [onV_s]; (first | refine hA _ _ _ ?_ ?_ | refine hA _ _ _ ?_ (by first | exact .inl rfl | exact .inr (by decide)) ?_); (focus (simp [h0, h1, h4, h6, hlt, hi, ha, hv, hx, hxl, hnx, hz, hw, Pr.cs] <;> omega)); clear hA hB A B))
        | (refine RQ.nl ?_; refine hk _ _ ?_; clear hk k)
        | refine WP.sr fun k hk => ?_ | refine WP.r fun k hk => ?_
        | refine WP.sd _ rfl fun k hk => ?_ | refine WP.d _ rfl fun k hk => ?_
        | (refine WP.cc fun A B hA hB => ?_; simp [h0, h1, h4, h6, hlt, hi, ha, hv, hx, hxl, hnx, hz, hw, Pr.cs, onB_t, onB_f]; first | (refine hA ?_; clear hA hB A B) | (refine hB ?_; clear hA hB A B) | (refine onB_if (fun h => hA ?_) (fun h => hB ?_) <;> clear hA hB A B))
        | refine WP.q ?_ | refine WP.b ?_)
      exact ⟨n - 1, by omega, i + 1, by omega, hnx, ⟨x, hx, hxl⟩, by simp [h0], by simp [h1], by simp [h4], by simp, hc⟩
  · have hlt : ¬ ((i : Int) < (e.length : Int)) := by omega
    have hd : e.drop i = [] := List.drop_eq_nil_of_le (by omega)
    rw [hc, hd]
    repeat' (first
      | refine WP.t ?_ | refine WP.k ?_ | refine WP.e ?_ | refine Qn ?_ | refine Qr ?_ | refine Qe ?_ | refine Bn ?_ | refine Br ?_ | refine Be ?_ | refine Bx (by decide) ?_
      | (refine RS.nl ?_; refine hk _ _ ?_; clear hk k)
      | ((first | refine RS.st fun A B hA hB => ?_ | refine RQ.st fun A B hA hB => ?_); simp [h0, h1, h4, h6, hlt, hx, hxl, hnx, onW_t, onW_f, onV_s]; first | ((first | refine hA _ _ _ ?_ ?_ | refine hA _ _ _ ?_ (by first | exact .inl rfl | exact .inr (by decide)) ?_); (focus (simp [h0, h1, h4, h6, hlt, hx, hxl, hnx] <;> omega)); clear hA hB A B) | (refine hB ?_; clear hA hB A B) | (refine onV_if ?_ ?_; (focus (first | omega | (refine ⟨?_, ?_⟩ <;> omega))); simp only [onV_s]; (first | refine hA _ _ _ ?_ ?_ | refine hA _ _ _ ?_ (by first | exact .inl rfl | exact .inr (by decide)) ?_); (focus (simp [h0, h1, h4, h6, hlt, hx, hxl, hnx] <;> omega)); clear hA hB A B))
      | (refine RQ.nl ?_; refine hk _ _ ?_; clear hk k)
      | refine WP.sr fun k hk => ?_ | refine WP.r fun k hk => ?_
      | refine WP.sd _ rfl fun k hk => ?_ | refine WP.d _ rfl fun k hk => ?_
      | (refine WP.cc fun A B hA hB => ?_; simp [h0, h1, h4, h6, hlt, hx, hxl, hnx, onB_t, onB_f]; first | (refine hA ?_; clear hA hB A B) | (refine hB ?_; clear hA hB A B) | (refine onB_if (fun h => hA ?_) (fun h => hB ?_) <;> clear hA hB A B))
      | refine WP.q ?_ | refine WP.b ?_)
    have hn0 : getE [] nm = none := rfl
    rw [hn0]
    simp [tupV_none, hnx, h4, hxl]
end
end Go.Am
namespace Go.Am
open Go.Proofs
theorem gtS_f {a b : Str} (h : gtS a b = false) (h2 : (a == b) = false) : Op.bytesLess a b = true := by
  unfold gtS at h
  rw [h2] at h
  simpa using h
theorem gtS_t {a b : Str} (h : gtS a b = true) : Op.bytesLess a b = false := by
  unfold gtS at h
  simp at h
  exact h.1
theorem big48 {n : Nat} (h : n ≤ 268435460) : n * 48 ≤ 140737488355328 := Nat.le_trans (Nat.mul_le_mul_right 48 h) (by decide)
section
variable {K : Nat} {gw : World} {s : St}
attribute [local simp] awanted xop zOf cz zrow aop ev T0 Slots.put Slots.set Slots.get awr WOk AV.may ofConst abinop aint isConst St.get_push St.get_put St.live AV.fit AV.cells AV.one fieldOf afieldAddr aload ofCells astore splice May eqres env_ti FinP FinZ FinW ares aresL ares1 Fns.addP Fns.add Fns.a0 Fns.a1 Fns.a2 Fns.a3 Fns.a4 abuiltin alenOk alen aindex elemOfT elemId abuildSlice afill chunks ard aappend isSS AV.isStr aminmax placesOf abuild afield aidx isStrD isStrDesc astrop aslice asliceOk abound arange anext aextract aunop aeq AV.ck avseq aveq aconv aconvert onB_t onB_f List.range_succ
def OutW (s : St) (T : Slots) (s' : St) (C : Envr) : Prop :=
  (C = [] ∧ T.get 7 = .nsl) ∨ (C ≠ [] ∧ ∃ q, s.nx + 1 < q ∧ q < s'.nx ∧ T.get 7 = .ls q 0 C.length ∧ s'.get q = some (.row 4 (true, 155) (C.map Pr.cs)))
def InvW (s : St) (e : Envr) (A : Nat) (nm : Str) (p : Pr) (i : Nat) (T : Slots) (s' : St) : Prop :=
  s.nx + 1 < s'.nx ∧ s'.get (s.nx + 1) = some (.var 155 p.cs) ∧ T.get 0 = .sl (e.map Pr.cs) ∧ T.get 1 = .str nm ∧ T.get 8 = .bool (decide (A < i)) ∧ T.get 9 = .ptr (s.nx + 1) 0 ∧ T.get 10 = .int .i64 i ∧ OutW s T s' (accW e A p i)
set_option maxRecDepth 20000 in
set_option maxHeartbeats 1000000 in
theorem ft_RWith (e : Envr) (nm : Str) (v : V) (hl : e.length < 268435456) (hn : getE e nm = none) : FT (env K gw) NoW 69 [.sl (e.map Pr.cs), .str nm, .agg v.cs] s (.sl ((withE e nm v).map Pr.cs)) s := by
  have hwd : withE e nm v = insR e (withAt e nm) ⟨nm, bareV v⟩ := rfl
  have hub : cV.un [.bool v.b, .str v.s, .int .i64 v.n] = some v := rfl
  have hAl := withAt_le e nm
  have hlo : ∀ {i : Nat} (h : i < e.length), i < withAt e nm → gtS e[i].k nm = false := fun h h2 => withAt_lo h h2
  have hat : ∀ {i : Nat} (h : i < e.length), i = withAt e nm → gtS e[i].k nm = true := fun h h2 => withAt_at h h2
  rw [hwd]
  refine FT.data (fn := Tryz.f69) Q9_ok mixed Tryz.func69 (by kernel_rfl) (by rfl) rfl rfl (by simp) rfl fun μ w => ?_
  generalize withAt e nm = A at *
  repeat' (first
    | refine WP.t ?_ | refine WP.k ?_ | refine WP.e ?_ | refine Qn ?_ | refine Qr ?_ | refine Qe ?_ | refine Bn ?_ | refine Br ?_ | refine Be ?_ | refine Bx (by decide) ?_
    | (refine RS.nl ?_; refine hk _ _ ?_; clear hk k)
    | ((first | refine RS.st fun A B hA hB => ?_ | refine RQ.st fun A B hA hB => ?_); simp [Q9, Q8, Q7, Q6, Q5, V.cs, hub, onW_t, onW_f, onV_s]; first | ((first | refine hA _ _ _ ?_ ?_ | refine hA _ _ _ ?_ (by first | exact .inl rfl | exact .inr (by decide)) ?_); (focus (simp [Q9, Q8, Q7, Q6, Q5, V.cs, hub] <;> omega)); clear hA hB A B) | (refine hB ?_; clear hA hB A B) | (refine onV_if ?_ ?_; (focus (first | omega | (refine ⟨?_, ?_⟩ <;> omega))); simp only [onV_s]; (first | refine hA _ _ _ ?_ ?_ | refine hA _ _ _ ?_ (by first | exact .inl rfl | exact .inr (by decide)) ?_); (focus (simp [Q9, Q8, Q7, Q6, Q5, V.cs, hub] <;> omega)); clear hA hB A B))
    | (refine RQ.nl ?_; refine hk _ _ ?_; clear hk k)
    | refine WP.sr fun k hk => ?_ | refine WP.r fun k hk => ?_
    | refine WP.sd _ rfl fun k hk => ?_ | refine WP.d _ rfl fun k hk => ?_
    | (refine WP.cc fun A B hA hB => ?_; simp [Q9, Q8, Q7, Q6, Q5, V.cs, hub, onB_t, onB_f]; first | (refine hA ?_; clear hA hB A B) | (refine hB ?_; clear hA hB A B) | (refine onB_if (fun h => hA ?_) (fun h => hB ?_) <;> clear hA hB A B))
    | refine WP.q ?_ | refine WP.b ?_)
  generalize hp : (⟨nm, bareV v⟩ : Pr) = p at *
  refine WP_loop (fun n T s' => ∃ i : Nat, n + i = e.length ∧ InvW s e A nm p i T s') e.length ⟨0, by simp, by simp, ?_, by simp, by simp, by simp, by simp, by simp, .inl ⟨by simp [accW], by simp⟩⟩ ?_
  · rw [← hp]
    simp [St.get_put, Pr.cs]
  rintro n T s' ⟨i, hni, hnx, hx, h0, h1, h8, h9, h10, hO⟩
  obtain ⟨pk, ⟨pb, ps, pn⟩⟩ := p
  simp only [Pr.cs] at hx
  by_cases hi : i < e.length
  · have hlt : ((i : Int) < (e.length : Int)) := by omega
    have hw : IntKind.i64.wrap ((i : Int) + 1) = (i : Int) + 1 := wrap64 (by omega) (by omega)
    have ha : e[i]? = some e[i] := List.getElem?_eq_getElem hi
    have hz := getE_ne hn hi
    have hCl := accW_len (p := ⟨pk, ⟨pb, ps, pn⟩⟩) hAl (Nat.le_of_lt hi)
    have hB : ∃ b, Op.bytesLess e[i].k nm = b ∧ (i < A → b = true) ∧ (i = A → b = false) := by
      refine ⟨_, rfl, fun h => gtS_f (hlo hi h) hz, fun h => gtS_t (hat hi h)⟩
    obtain ⟨b, hb, hb1, hb2⟩ := hB
    by_cases hA : i = A
    · have hs := accW_at (p := ⟨pk, ⟨pb, ps, pn⟩⟩) hA hi
      obtain rfl := hb2 hA
      have hd : ¬ (A < i) := by omega
      rw [decide_eq_false hd] at h8
      generalize hv : e[i] = x at *
      obtain ⟨xk, ⟨xb, xs, xn⟩⟩ := x
      generalize accW e A ⟨pk, ⟨pb, ps, pn⟩⟩ i = C at *
      have m0 : ¬ s.nx + 1 = s'.nx := by omega
      have m1 : ¬ s.nx = s'.nx := by omega
      have m2 : ¬ s.nx = s'.nx + 1 := by omega
      have m3 : ¬ s.nx = s'.nx + 1 + 1 := by omega
      rcases hO with ⟨rfl, h7⟩ | ⟨hC, q, hq1, hq2, h7, hq⟩
      · skip
        repeat' (first
          | refine WP.t ?_ | refine WP.k ?_ | refine WP.e ?_ | refine Qn ?_ | refine Qr ?_ | refine Qe ?_ | refine Bn ?_ | refine Br ?_ | refine Be ?_ | refine Bx (by decide) ?_
          | (refine RS.nl ?_; refine hk _ _ ?_; clear hk k)
          | ((first | refine RS.st fun A B hA hB => ?_ | refine RQ.st fun A B hA hB => ?_); simp [h0, h1, h7, h8, h9, h10, hlt, hi, ha, hv, hw, hz, hb, hx, hnx, Pr.cs, onW_t, onW_f, onV_s]; first | ((first | refine hA _ _ _ ?_ ?_ | refine hA _ _ _ ?_ (by first | exact .inl rfl | exact .inr (by decide)) ?_); (focus (simp [h0, h1, h7, h8, h9, h10, hlt, hi, ha, hv, hw, hz, hb, hx, hnx, Pr.cs] <;> omega)); clear hA hB A B) | (refine hB ?_; clear hA hB A B) | (refine onV_if ?_ ?_; (focus (first | omega | (refine ⟨?_, ?_⟩ <;> omega))); simp only [onV_s]; (first | refine hA _ _ _ ?_ ?_ | refine hA _ _ _ ?_ (by first | exact .inl rfl | exact .inr (by decide)) ?_); (focus (simp [h0, h1, h7, h8, h9, h10, hlt, hi, ha, hv, hw, hz, hb, hx, hnx, Pr.cs] <;> omega)); clear hA hB A B))
          | (refine RQ.nl ?_; refine hk _ _ ?_; clear hk k)
          | refine WP.sr fun k hk => ?_ | refine WP.r fun k hk => ?_
          | refine WP.sd _ rfl fun k hk => ?_ | refine WP.d _ rfl fun k hk => ?_
          | (refine WP.cc fun A B hA hB => ?_; simp [h0, h1, h7, h8, h9, h10, hlt, hi, ha, hv, hw, hz, hb, hx, hnx, Pr.cs, onB_t, onB_f]; first | (refine hA ?_; clear hA hB A B) | (refine hB ?_; clear hA hB A B) | (refine onB_if (fun h => hA ?_) (fun h => hB ?_) <;> clear hA hB A B))
          | refine WP.q ?_ | refine WP.b ?_)
        refine ⟨n - 1, by omega, i + 1, by omega, ?_, ?_, by simp [h0], by simp [h1], by simp [hA], by simp [h9], by simp, .inr ⟨by simp [hs], s'.nx + 1, ?_, ?_, ?_, ?_⟩⟩
        · simp; omega
        · simp [St.get_push, St.get_drop, hx, m0, m1, m2, m3, Pr.cs]
        · omega
        · simp
        · simp [hs]
        · simp [St.get_push, St.get_drop, hs, Pr.cs]
      · have e0 : ¬ q = s'.nx := by omega
        have e1 : ¬ q = s'.nx + 1 := by omega
        have e2 : ¬ q = s'.nx + 1 + 1 := by omega
        have e3 : ¬ q = s'.nx + 1 + 1 + 1 := by omega
        have e4 : ¬ s.nx + 1 = q := by omega
        have l0 : q < s'.nx + 1 := by omega
        have htl : List.take C.length (C.map Pr.cs) = C.map Pr.cs := List.take_of_length_le (by simp)
        have hcl2 : C.length ≤ e.length + 1 := by rw [hCl]; split <;> omega
        have hby : (C.length + 1) * 48 ≤ 140737488355328 := big48 (by omega)
        have hby2 : (C.length + 1 + 1) * 48 ≤ 140737488355328 := big48 (by omega)
        have htl2 : List.take (C.length + 1) (C.map Pr.cs ++ [[.str pk, .bool pb, .str ps, .int .i64 pn]]) = C.map Pr.cs ++ [[.str pk, .bool pb, .str ps, .int .i64 pn]] := List.take_of_length_le (by simp)
        repeat' (first
          | refine WP.t ?_ | refine WP.k ?_ | refine WP.e ?_ | refine Qn ?_ | refine Qr ?_ | refine Qe ?_ | refine Bn ?_ | refine Br ?_ | refine Be ?_ | refine Bx (by decide) ?_
          | (refine RS.nl ?_; refine hk _ _ ?_; clear hk k)
          | ((first | refine RS.st fun A B hA hB => ?_ | refine RQ.st fun A B hA hB => ?_); simp [h0, h1, h7, h8, h9, h10, hlt, hi, ha, hv, hw, hz, hb, hx, hnx, hq, e0, e1, e2, e3, e4, l0, htl, htl2, hby, hby2, m0, m1, m2, m3, Pr.cs, onW_t, onW_f, onV_s]; first | ((first | refine hA _ _ _ ?_ ?_ | refine hA _ _ _ ?_ (by first | exact .inl rfl | exact .inr (by decide)) ?_); (focus (simp [h0, h1, h7, h8, h9, h10, hlt, hi, ha, hv, hw, hz, hb, hx, hnx, hq, e0, e1, e2, e3, e4, l0, htl, htl2, hby, hby2, m0, m1, m2, m3, Pr.cs] <;> omega)); clear hA hB A B) | (refine hB ?_; clear hA hB A B) | (refine onV_if ?_ ?_; (focus (first | omega | (refine ⟨?_, ?_⟩ <;> omega))); simp only [onV_s]; (first | refine hA _ _ _ ?_ ?_ | refine hA _ _ _ ?_ (by first | exact .inl rfl | exact .inr (by decide)) ?_); (focus (simp [h0, h1, h7, h8, h9, h10, hlt, hi, ha, hv, hw, hz, hb, hx, hnx, hq, e0, e1, e2, e3, e4, l0, htl, htl2, hby, hby2, m0, m1, m2, m3, Pr.cs] <;> omega)); clear hA hB A B))
          | (refine RQ.nl ?_; refine hk _ _ ?_; clear hk k)
          | refine WP.sr fun k hk => ?_ | refine WP.r fun k hk => ?_
          | refine WP.sd _ rfl fun k hk => ?_ | refine WP.d _ rfl fun k hk => ?_
          | (refine WP.cc fun A B hA hB => ?_; simp [h0, h1, h7, h8, h9, h10, hlt, hi, ha, hv, hw, hz, hb, hx, hnx, hq, e0, e1, e2, e3, e4, l0, htl, htl2, hby, hby2, m0, m1, m2, m3, Pr.cs, onB_t, onB_f]; first | (refine hA ?_; clear hA hB A B) | (refine hB ?_; clear hA hB A B) | (refine onB_if (fun h => hA ?_) (fun h => hB ?_) <;> clear hA hB A B))
          | refine WP.q ?_ | refine WP.b ?_)
        refine ⟨n - 1, by omega, i + 1, by omega, ?_, ?_, by simp [h0], by simp [h1], by simp [hA], by simp [h9], by simp, .inr ⟨by simp [hs], s'.nx + 1, ?_, ?_, ?_, ?_⟩⟩
        · simp; omega
        · simp [St.get_push, St.get_drop, hx, m0, m1, m2, m3, e4, Pr.cs]
        · omega
        · simp
        · simp [hs]
        · simp [St.get_push, St.get_drop, hs, Pr.cs]
    · have hs : accW e A ⟨pk, ⟨pb, ps, pn⟩⟩ (i + 1) = accW e A ⟨pk, ⟨pb, ps, pn⟩⟩ i ++ [e[i]] := by
        by_cases h : i < A
        · exact accW_lt h hi
        · exact accW_gt (by omega) hi
      have hsk : (b = true ∧ decide (A < i) = false ∧ decide (A < i + 1) = false ∧ i < A) ∨ decide (A < i) = true ∧ decide (A < i + 1) = true ∧ A < i := by
        by_cases h : i < A
        · exact .inl ⟨hb1 h, by simp; omega, by simp; omega, h⟩
        · exact .inr ⟨by simp; omega, by simp; omega, by omega⟩
      have hlen0 : accW e A ⟨pk, ⟨pb, ps, pn⟩⟩ i = [] → i < A := by
        intro h
        rw [h] at hCl
        simp at hCl
        split at hCl <;> omega
      generalize hv : e[i] = x at *
      obtain ⟨xk, ⟨xb, xs, xn⟩⟩ := x
      generalize accW e A ⟨pk, ⟨pb, ps, pn⟩⟩ i = C at *
      generalize hd' : decide (A < i + 1) = d' at *
      generalize decide (A < i) = d at *
      have m0 : ¬ s.nx + 1 = s'.nx := by omega
      have m1 : ¬ s.nx = s'.nx := by omega
      rcases hO with ⟨rfl, h7⟩ | ⟨hC, q, hq1, hq2, h7, hq⟩
      · obtain ⟨rfl, rfl, rfl, hiA⟩ : b = true ∧ d = false ∧ d' = false ∧ i < A := by
          rcases hsk with h | ⟨_, _, h⟩
          · exact h
          · exact absurd (hlen0 rfl) (by omega)
        repeat' (first
          | refine WP.t ?_ | refine WP.k ?_ | refine WP.e ?_ | refine Qn ?_ | refine Qr ?_ | refine Qe ?_ | refine Bn ?_ | refine Br ?_ | refine Be ?_ | refine Bx (by decide) ?_
          | (refine RS.nl ?_; refine hk _ _ ?_; clear hk k)
          | ((first | refine RS.st fun A B hA hB => ?_ | refine RQ.st fun A B hA hB => ?_); simp [h0, h1, h7, h8, h9, h10, hlt, hi, ha, hv, hw, hz, hb, hx, hnx, Pr.cs, onW_t, onW_f, onV_s]; first | ((first | refine hA _ _ _ ?_ ?_ | refine hA _ _ _ ?_ (by first | exact .inl rfl | exact .inr (by decide)) ?_); (focus (simp [h0, h1, h7, h8, h9, h10, hlt, hi, ha, hv, hw, hz, hb, hx, hnx, Pr.cs] <;> omega)); clear hA hB A B) | (refine hB ?_; clear hA hB A B) | (refine onV_if ?_ ?_; (focus (first | omega | (refine ⟨?_, ?_⟩ <;> omega))); simp only [onV_s]; (first | refine hA _ _ _ ?_ ?_ | refine hA _ _ _ ?_ (by first | exact .inl rfl | exact .inr (by decide)) ?_); (focus (simp [h0, h1, h7, h8, h9, h10, hlt, hi, ha, hv, hw, hz, hb, hx, hnx, Pr.cs] <;> omega)); clear hA hB A B))
          | (refine RQ.nl ?_; refine hk _ _ ?_; clear hk k)
          | refine WP.sr fun k hk => ?_ | refine WP.r fun k hk => ?_
          | refine WP.sd _ rfl fun k hk => ?_ | refine WP.d _ rfl fun k hk => ?_
          | (refine WP.cc fun A B hA hB => ?_; simp [h0, h1, h7, h8, h9, h10, hlt, hi, ha, hv, hw, hz, hb, hx, hnx, Pr.cs, onB_t, onB_f]; first | (refine hA ?_; clear hA hB A B) | (refine hB ?_; clear hA hB A B) | (refine onB_if (fun h => hA ?_) (fun h => hB ?_) <;> clear hA hB A B))
          | refine WP.q ?_ | refine WP.b ?_)
        all_goals (refine ⟨n - 1, by omega, i + 1, by omega, ?_, ?_, by simp [h0], by simp [h1], by simp [h8]; omega, by simp [h9], by simp, .inr ⟨by simp [hs], s'.nx, ?_, ?_, ?_, ?_⟩⟩)
        all_goals first
          | (simp [St.get_push, St.get_drop, hs, hx, m0, m1, Pr.cs]; done)
          | (simp [St.get_push, St.get_drop, hs, hx, m0, m1, Pr.cs]; omega)
          | omega
      · skip
        have e0 : ¬ q = s'.nx := by omega
        have e1 : ¬ q = s'.nx + 1 := by omega
        have e4 : ¬ s.nx + 1 = q := by omega
        have l0 : q < s'.nx + 1 := by omega
        have htl : List.take C.length (C.map Pr.cs) = C.map Pr.cs := List.take_of_length_le (by simp)
        have hcl2 : C.length ≤ e.length + 1 := by rw [hCl]; split <;> omega
        have hby : (C.length + 1) * 48 ≤ 140737488355328 := big48 (by omega)
        rcases hsk with ⟨rfl, rfl, rfl, hiA⟩ | ⟨rfl, rfl, hiA⟩
        · skip
          repeat' (first
            | refine WP.t ?_ | refine WP.k ?_ | refine WP.e ?_ | refine Qn ?_ | refine Qr ?_ | refine Qe ?_ | refine Bn ?_ | refine Br ?_ | refine Be ?_ | refine Bx (by decide) ?_
            | (refine RS.nl ?_; refine hk _ _ ?_; clear hk k)
            | ((first | refine RS.st fun A B hA hB => ?_ | refine RQ.st fun A B hA hB => ?_); simp [h0, h1, h7, h8, h9, h10, hlt, hi, ha, hv, hw, hz, hb, hx, hnx, hq, e0, e1, e4, l0, htl, hby, m0, m1, Pr.cs, onW_t, onW_f, onV_s]; first | ((first | refine hA _ _ _ ?_ ?_ | refine hA _ _ _ ?_ (by first | exact .inl rfl | exact .inr (by decide)) ?_); (focus (simp [h0, h1, h7, h8, h9, h10, hlt, hi, ha, hv, hw, hz, hb, hx, hnx, hq, e0, e1, e4, l0, htl, hby, m0, m1, Pr.cs] <;> omega)); clear hA hB A B) | (refine hB ?_; clear hA hB A B) | (refine onV_if ?_ ?_; (focus (first | omega | (refine ⟨?_, ?_⟩ <;> omega))); simp only [onV_s]; (first | refine hA _ _ _ ?_ ?_ | refine hA _ _ _ ?_ (by first | exact .inl rfl | exact .inr (by decide)) ?_); (focus (simp [h0, h1, h7, h8, h9, h10, hlt, hi, ha, hv, hw, hz, hb, hx, hnx, hq, e0, e1, e4, l0, htl, hby, m0, m1, Pr.cs] <;> omega)); clear hA hB A B))
            | (refine RQ.nl ?_; refine hk _ _ ?_; clear hk k)
            | refine WP.sr fun k hk => ?_ | refine WP.r fun k hk => ?_
            | refine WP.sd _ rfl fun k hk => ?_ | refine WP.d _ rfl fun k hk => ?_
            | (refine WP.cc fun A B hA hB => ?_; simp [h0, h1, h7, h8, h9, h10, hlt, hi, ha, hv, hw, hz, hb, hx, hnx, hq, e0, e1, e4, l0, htl, hby, m0, m1, Pr.cs, onB_t, onB_f]; first | (refine hA ?_; clear hA hB A B) | (refine hB ?_; clear hA hB A B) | (refine onB_if (fun h => hA ?_) (fun h => hB ?_) <;> clear hA hB A B))
            | refine WP.q ?_ | refine WP.b ?_)
          refine ⟨n - 1, by omega, i + 1, by omega, ?_, ?_, by simp [h0], by simp [h1], by simp [h8]; omega, by simp [h9], by simp, .inr ⟨by simp [hs], s'.nx, ?_, ?_, ?_, ?_⟩⟩
          all_goals first
            | (simp [St.get_push, St.get_drop, hs, hx, m0, m1, e4, Pr.cs]; done)
            | (simp [St.get_push, St.get_drop, hs, hx, m0, m1, e4, Pr.cs]; omega)
            | omega
        · cases b
          all_goals
            repeat' (first
              | refine WP.t ?_ | refine WP.k ?_ | refine WP.e ?_ | refine Qn ?_ | refine Qr ?_ | refine Qe ?_ | refine Bn ?_ | refine Br ?_ | refine Be ?_ | refine Bx (by decide) ?_
              | (refine RS.nl ?_; refine hk _ _ ?_; clear hk k)
              | ((first | refine RS.st fun A B hA hB => ?_ | refine RQ.st fun A B hA hB => ?_); simp [h0, h1, h7, h8, h9, h10, hlt, hi, ha, hv, hw, hz, hb, hx, hnx, hq, e0, e1, e4, l0, htl, hby, m0, m1, Pr.cs, onW_t, onW_f, onV_s]; first | ((first | refine hA _ _ _ ?_ ?_ | refine hA _ _ _ ?_ (by first | exact .inl rfl | exact .inr (by decide)) ?_); (focus (simp [h0, h1, h7, h8, h9, h10, hlt, hi, ha, hv, hw, hz, hb, hx, hnx, hq, e0, e1, e4, l0, htl, hby, m0, m1, Pr.cs] <;> omega)); clear hA hB A B) | (refine hB ?_; clear hA hB A B) | (refine onV_if ?_ ?_; (focus (first | omega | (refine ⟨?_, ?_⟩ <;> omega))); simp only [onV_s]; (first | refine hA _ _ _ ?_ ?_ | refine hA _ _ _ ?_ (by first | exact .inl rfl | exact .inr (by decide)) ?_); (focus (simp [h0, h1, h7, h8, h9, h10, hlt, hi, ha, hv, hw, hz, hb, hx, hnx, hq, e0, e1, e4, l0, htl, hby, m0, m1, Pr.cs] <;> omega)); clear hA hB A B))
              | (refine RQ.nl ?_; refine hk _ _ ?_; clear hk k)
              | refine WP.sr fun k hk => ?_ | refine WP.r fun k hk => ?_
              | refine WP.sd _ rfl fun k hk => ?_ | refine WP.d _ rfl fun k hk => ?_
              | (refine WP.cc fun A B hA hB => ?_; simp [h0, h1, h7, h8, h9, h10, hlt, hi, ha, hv, hw, hz, hb, hx, hnx, hq, e0, e1, e4, l0, htl, hby, m0, m1, Pr.cs, onB_t, onB_f]; first | (refine hA ?_; clear hA hB A B) | (refine hB ?_; clear hA hB A B) | (refine onB_if (fun h => hA ?_) (fun h => hB ?_) <;> clear hA hB A B))
              | refine WP.q ?_ | refine WP.b ?_)
          all_goals (refine ⟨n - 1, by omega, i + 1, by omega, ?_, ?_, by simp [h0], by simp [h1], by simp [h8]; omega, by simp [h9], by simp, .inr ⟨by simp [hs], s'.nx, ?_, ?_, ?_, ?_⟩⟩)
          all_goals first
            | (simp [St.get_push, St.get_drop, hs, hx, m0, m1, e4, Pr.cs]; done)
            | (simp [St.get_push, St.get_drop, hs, hx, m0, m1, e4, Pr.cs]; omega)
            | omega
  · have hlt : ¬ ((i : Int) < (e.length : Int)) := by omega
    obtain rfl : i = e.length := by omega
    have hend := accW_end (p := ⟨pk, ⟨pb, ps, pn⟩⟩) hAl
    have hCl := accW_len (p := ⟨pk, ⟨pb, ps, pn⟩⟩) hAl (Nat.le_refl _)
    have hcl2 : (accW e A ⟨pk, ⟨pb, ps, pn⟩⟩ e.length).length ≤ e.length + 1 := by rw [hCl]; split <;> omega
    generalize insR e A ⟨pk, ⟨pb, ps, pn⟩⟩ = R at *
    generalize accW e A ⟨pk, ⟨pb, ps, pn⟩⟩ e.length = C at *
    by_cases hA : A < e.length
    · rw [decide_eq_true hA] at h8
      rw [if_pos hA] at hend
      subst hend
      rcases hO with ⟨rfl, h7⟩ | ⟨hC, q, hq1, hq2, h7, hq⟩
      · exfalso
        rw [if_neg (by omega)] at hCl
        simp at hCl
      · skip
        repeat' (first
          | refine WP.t ?_ | refine WP.k ?_ | refine WP.e ?_ | refine Qn ?_ | refine Qr ?_ | refine Qe ?_ | refine Bn ?_ | refine Br ?_ | refine Be ?_ | refine Bx (by decide) ?_
          | (refine RS.nl ?_; refine hk _ _ ?_; clear hk k)
          | ((first | refine RS.st fun A B hA hB => ?_ | refine RQ.st fun A B hA hB => ?_); simp [h0, h1, h7, h8, h9, h10, hlt, onW_t, onW_f, onV_s]; first | ((first | refine hA _ _ _ ?_ ?_ | refine hA _ _ _ ?_ (by first | exact .inl rfl | exact .inr (by decide)) ?_); (focus (simp [h0, h1, h7, h8, h9, h10, hlt] <;> omega)); clear hA hB A B) | (refine hB ?_; clear hA hB A B) | (refine onV_if ?_ ?_; (focus (first | omega | (refine ⟨?_, ?_⟩ <;> omega))); simp only [onV_s]; (first | refine hA _ _ _ ?_ ?_ | refine hA _ _ _ ?_ (by first | exact .inl rfl | exact .inr (by decide)) ?_); (focus (simp [h0, h1, h7, h8, h9, h10, hlt] <;> omega)); clear hA hB A B))
          | (refine RQ.nl ?_; refine hk _ _ ?_; clear hk k)
          | refine WP.sr fun k hk => ?_ | refine WP.r fun k hk => ?_
          | refine WP.sd _ rfl fun k hk => ?_ | refine WP.d _ rfl fun k hk => ?_
          | (refine WP.cc fun A B hA hB => ?_; simp [h0, h1, h7, h8, h9, h10, hlt, onB_t, onB_f]; first | (refine hA ?_; clear hA hB A B) | (refine hB ?_; clear hA hB A B) | (refine onB_if (fun h => hA ?_) (fun h => hB ?_) <;> clear hA hB A B))
          | refine WP.q ?_ | refine WP.b ?_)
        exact ⟨.inr rfl, .ls q 0 _, by simp, frz_sl cPr hq (by omega) rfl⟩
    · rw [decide_eq_false hA] at h8
      rw [if_neg hA] at hend
      subst hend
      have m0 : ¬ s.nx + 1 = s'.nx := by omega
      have m1 : ¬ s.nx = s'.nx := by omega
      rcases hO with ⟨rfl, h7⟩ | ⟨hC, q, hq1, hq2, h7, hq⟩
      · skip
        repeat' (first
          | refine WP.t ?_ | refine WP.k ?_ | refine WP.e ?_ | refine Qn ?_ | refine Qr ?_ | refine Qe ?_ | refine Bn ?_ | refine Br ?_ | refine Be ?_ | refine Bx (by decide) ?_
          | (refine RS.nl ?_; refine hk _ _ ?_; clear hk k)
          | ((first | refine RS.st fun A B hA hB => ?_ | refine RQ.st fun A B hA hB => ?_); simp [h0, h1, h7, h8, h9, h10, hlt, hx, hnx, m0, m1, Pr.cs, onW_t, onW_f, onV_s]; first | ((first | refine hA _ _ _ ?_ ?_ | refine hA _ _ _ ?_ (by first | exact .inl rfl | exact .inr (by decide)) ?_); (focus (simp [h0, h1, h7, h8, h9, h10, hlt, hx, hnx, m0, m1, Pr.cs] <;> omega)); clear hA hB A B) | (refine hB ?_; clear hA hB A B) | (refine onV_if ?_ ?_; (focus (first | omega | (refine ⟨?_, ?_⟩ <;> omega))); simp only [onV_s]; (first | refine hA _ _ _ ?_ ?_ | refine hA _ _ _ ?_ (by first | exact .inl rfl | exact .inr (by decide)) ?_); (focus (simp [h0, h1, h7, h8, h9, h10, hlt, hx, hnx, m0, m1, Pr.cs] <;> omega)); clear hA hB A B))
          | (refine RQ.nl ?_; refine hk _ _ ?_; clear hk k)
          | refine WP.sr fun k hk => ?_ | refine WP.r fun k hk => ?_
          | refine WP.sd _ rfl fun k hk => ?_ | refine WP.d _ rfl fun k hk => ?_
          | (refine WP.cc fun A B hA hB => ?_; simp [h0, h1, h7, h8, h9, h10, hlt, hx, hnx, m0, m1, Pr.cs, onB_t, onB_f]; first | (refine hA ?_; clear hA hB A B) | (refine hB ?_; clear hA hB A B) | (refine onB_if (fun h => hA ?_) (fun h => hB ?_) <;> clear hA hB A B))
          | refine WP.q ?_ | refine WP.b ?_)
        exact ⟨.inr rfl, .ls s'.nx 0 1, by simp, frz_sl cPr (k := (true, 155)) (by simp [St.get_push, Pr.cs, cPr]) (by omega) (by simp)⟩
      · have e0 : ¬ q = s'.nx := by omega
        have e1 : ¬ q = s'.nx + 1 := by omega
        have e4 : ¬ s.nx + 1 = q := by omega
        have l0 : q < s'.nx + 1 := by omega
        have htl : List.take C.length (C.map Pr.cs) = C.map Pr.cs := List.take_of_length_le (by simp)
        have hby : (C.length + 1) * 48 ≤ 140737488355328 := big48 (by omega)
        repeat' (first
          | refine WP.t ?_ | refine WP.k ?_ | refine WP.e ?_ | refine Qn ?_ | refine Qr ?_ | refine Qe ?_ | refine Bn ?_ | refine Br ?_ | refine Be ?_ | refine Bx (by decide) ?_
          | (refine RS.nl ?_; refine hk _ _ ?_; clear hk k)
          | ((first | refine RS.st fun A B hA hB => ?_ | refine RQ.st fun A B hA hB => ?_); simp [h0, h1, h7, h8, h9, h10, hlt, hx, hnx, hq, e0, e1, e4, l0, htl, hby, m0, m1, Pr.cs, onW_t, onW_f, onV_s]; first | ((first | refine hA _ _ _ ?_ ?_ | refine hA _ _ _ ?_ (by first | exact .inl rfl | exact .inr (by decide)) ?_); (focus (simp [h0, h1, h7, h8, h9, h10, hlt, hx, hnx, hq, e0, e1, e4, l0, htl, hby, m0, m1, Pr.cs] <;> omega)); clear hA hB A B) | (refine hB ?_; clear hA hB A B) | (refine onV_if ?_ ?_; (focus (first | omega | (refine ⟨?_, ?_⟩ <;> omega))); simp only [onV_s]; (first | refine hA _ _ _ ?_ ?_ | refine hA _ _ _ ?_ (by first | exact .inl rfl | exact .inr (by decide)) ?_); (focus (simp [h0, h1, h7, h8, h9, h10, hlt, hx, hnx, hq, e0, e1, e4, l0, htl, hby, m0, m1, Pr.cs] <;> omega)); clear hA hB A B))
          | (refine RQ.nl ?_; refine hk _ _ ?_; clear hk k)
          | refine WP.sr fun k hk => ?_ | refine WP.r fun k hk => ?_
          | refine WP.sd _ rfl fun k hk => ?_ | refine WP.d _ rfl fun k hk => ?_
          | (refine WP.cc fun A B hA hB => ?_; simp [h0, h1, h7, h8, h9, h10, hlt, hx, hnx, hq, e0, e1, e4, l0, htl, hby, m0, m1, Pr.cs, onB_t, onB_f]; first | (refine hA ?_; clear hA hB A B) | (refine hB ?_; clear hA hB A B) | (refine onB_if (fun h => hA ?_) (fun h => hB ?_) <;> clear hA hB A B))
          | refine WP.q ?_ | refine WP.b ?_)
        exact ⟨.inr rfl, .ls s'.nx 0 (C.length + 1), by simp, frz_sl cPr (k := (true, 155)) (by simp [St.get_push, Pr.cs, cPr]) (by omega) (by simp)⟩
end
end Go.Am
