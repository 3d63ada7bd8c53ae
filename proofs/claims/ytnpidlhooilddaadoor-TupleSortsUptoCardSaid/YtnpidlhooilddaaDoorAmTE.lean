/- Part of the proof: abstract values over the given model of Go (T12, T13). Conditions: none of its own; see the statement in the seat's Rows text. -/
import Derived.Test.YtnpidlhooilddaaDoorAmT
import Derived.Test.YtnpidlhooilddaaDoorAmFour
set_option linter.unusedSimpArgs false
set_option linter.unusedVariables false
set_option linter.unusedSectionVars false
namespace Go.Am
open Go.Proofs
section
variable {K : Nat} {gw : World} {s : St}
attribute [local simp] RS_cons' RS_nil RQ_nil RQ_cons' awanted xop zOf zrow aop ev T0 Slots.put Slots.set Slots.get awr WOk AV.may ofConst abinop aint isConst St.get_push St.get_put St.live AV.fit AV.cells AV.one fieldOf afieldAddr aload ofCells astore splice May eqres env_ti FinP ares aresL ares1 Fns.addP Fns.add
theorem cmpS_cons (a b : UInt8) (x y : List UInt8) : cmpS (a :: x) (b :: y) = if (a.toNat : Int) < b.toNat then -1 else if (b.toNat : Int) < a.toNat then 1 else cmpS x y := by
  unfold cmpS
  simp only [Op.bytesLess]
  by_cases h : (a.toNat : Int) < b.toNat
  · have : a < b := by rw [UInt8.lt_iff_toNat_lt]; omega
    simp [h, this]
  · have h1 : ¬ a < b := by rw [UInt8.lt_iff_toNat_lt]; omega
    rw [if_neg h]
    by_cases h2 : (b.toNat : Int) < a.toNat
    · have h3 : ¬ a = b := by rintro rfl; omega
      simp [h1, h2, h3]
    · have h3 : a = b := by rw [← UInt8.toNat_inj]; omega
      subst h3
      simp [h1, h2]
theorem cmpS_drop {x y : List UInt8} {i : Nat} (hx : i < x.length) (hy : i < y.length) :
    cmpS (x.drop i) (y.drop i) = if (x[i].toNat : Int) < y[i].toNat then -1 else if (y[i].toNat : Int) < x[i].toNat then 1 else cmpS (x.drop (i + 1)) (y.drop (i + 1)) := by
  rw [List.drop_eq_getElem_cons hx, List.drop_eq_getElem_cons hy, cmpS_cons]
theorem cmpS_end {x y : List UInt8} {i : Nat} (h : i = min x.length y.length) : cmpS (x.drop i) (y.drop i) = cmpI x.length y.length := by
  unfold cmpI
  by_cases h1 : x.length < y.length
  · obtain rfl : i = x.length := by omega
    rw [List.drop_length, if_pos (by omega), List.drop_eq_getElem_cons h1]; rfl
  · by_cases h2 : y.length < x.length
    · obtain rfl : i = y.length := by omega
      rw [List.drop_length, if_neg (by omega), if_pos (by omega), List.drop_eq_getElem_cons h2]; rfl
    · obtain rfl : i = x.length := by omega
      rw [if_neg (by omega), if_neg (by omega)]
      have : x.length = y.length := by omega
      rw [List.drop_length, this, List.drop_length]; rfl
theorem ft49 (x y : List UInt8) (hx : x.length < LIM) (hy : y.length < LIM) : FT (env K gw) NoW 49 [.str x, .str y] s (.int .i64 (cmpS x y)) s := by
  refine FT.pure (fn := Tryd.f49) (F0_ok) mixed Tryd.func49 (by kernel_rfl) (by rfl) rfl rfl (by simp) rfl fun μ w => ?_
  repeat' (first
    | refine WP.t ?_ | refine WP.k ?_ | refine WP.e ?_ | refine Qn ?_ | refine Qr ?_ | refine Qe ?_ | refine Bn ?_ | refine Br ?_ | refine Be ?_ | refine Bx (by decide) ?_
    | (refine WP.sr fun k hk => ?_; simp [abuiltin, alenOk, alen, ti9]; refine hk _ _ ?_; clear hk k) | (refine WP.r fun k hk => ?_; simp [abuiltin, alenOk, alen, ti9]; refine hk _ _ ?_; clear hk k)
    | (refine WP.sd _ rfl fun k hk => ?_; simp [abuiltin, alenOk, alen, ti9]; refine hk _ _ ?_; clear hk k) | (refine WP.d _ rfl fun k hk => ?_; simp [abuiltin, alenOk, alen, ti9]; refine hk _ _ ?_; clear hk k)
    | (refine WP.cc fun A B hA hB => ?_; simp [abuiltin, alenOk, alen, ti9, onB_t, onB_f]; first | (refine hA ?_; clear hA hB A B) | (refine hB ?_; clear hA hB A B) | (refine onB_if (fun h => hA ?_) (fun h => hB ?_) <;> clear hA hB A B))
    | refine WP.q ?_ | refine WP.b ?_)
  refine WP_loop (fun n T s' => ∃ i : Nat, n + i = min x.length y.length ∧ s' = s ∧ T.get 0 = .str x ∧ T.get 1 = .str y ∧ T.get 5 = .int .i64 i ∧ cmpS x y = cmpS (x.drop i) (y.drop i)) (min x.length y.length) ⟨0, by simp, rfl, by simp, by simp, by simp, by simp⟩ ?_
  rintro n T s' ⟨i, hn, rfl, h0, h1, h5, hc⟩
  by_cases hi : i < min x.length y.length
  · have hx' : i < x.length := by omega
    have hy' : i < y.length := by omega
    have hw : IntKind.i64.wrap ((i : Int) + 1) = (i : Int) + 1 := wrap64 (by omega) (by simp only [LIM] at hx; omega)
    have ha : x[i]? = some x[i] := List.getElem?_eq_getElem hx'
    have hb : y[i]? = some y[i] := List.getElem?_eq_getElem hy'
    rw [cmpS_drop hx' hy'] at hc
    repeat' (first
      | refine WP.t ?_ | refine WP.k ?_ | refine WP.e ?_ | refine Qn ?_ | refine Qr ?_ | refine Qe ?_ | refine Bn ?_ | refine Br ?_ | refine Be ?_ | refine Bx (by decide) ?_
      | (refine WP.sr fun k hk => ?_; simp [abuiltin, alenOk, alen, ti9, isStrD, aidx, AV.isStr, h0, h1, h5, hx', hy', ha, hb, hw]; refine hk _ _ ?_; clear hk k) | (refine WP.r fun k hk => ?_; simp [abuiltin, alenOk, alen, ti9, isStrD, aidx, AV.isStr, h0, h1, h5, hx', hy', ha, hb, hw]; refine hk _ _ ?_; clear hk k)
      | (refine WP.sd _ rfl fun k hk => ?_; simp [abuiltin, alenOk, alen, ti9, isStrD, aidx, AV.isStr, h0, h1, h5, hx', hy', ha, hb, hw]; refine hk _ _ ?_; clear hk k) | (refine WP.d _ rfl fun k hk => ?_; simp [abuiltin, alenOk, alen, ti9, isStrD, aidx, AV.isStr, h0, h1, h5, hx', hy', ha, hb, hw]; refine hk _ _ ?_; clear hk k)
      | (refine WP.cc fun A B hA hB => ?_; simp [abuiltin, alenOk, alen, ti9, isStrD, aidx, AV.isStr, h0, h1, h5, hx', hy', ha, hb, hw, onB_t, onB_f]; first | (refine hA ?_; clear hA hB A B) | (refine hB ?_; clear hA hB A B) | (refine onB_if (fun h => hA ?_) (fun h => hB ?_) <;> clear hA hB A B))
      | refine WP.q ?_ | refine WP.b ?_)
    · simp at h
      rw [if_pos (by omega)] at hc
      simp [hc]
    · rename_i h'
      simp at h h'
      rw [if_neg (by omega), if_pos (by omega)] at hc
      simp [hc]
    · rename_i h'
      simp at h h'
      rw [if_neg (by omega), if_neg (by omega)] at hc
      exact ⟨n - 1, by omega, i + 1, by omega, rfl, by simp [h0], by simp [h1], by simp, hc⟩
  · have he : i = min x.length y.length := by omega
    rw [cmpS_end he] at hc
    by_cases hx' : i < x.length
    · have hy' : ¬ i < y.length := by omega
      repeat' (first
        | refine WP.t ?_ | refine WP.k ?_ | refine WP.e ?_ | refine Qn ?_ | refine Qr ?_ | refine Qe ?_ | refine Bn ?_ | refine Br ?_ | refine Be ?_ | refine Bx (by decide) ?_
        | (refine WP.sr fun k hk => ?_; simp [abuiltin, alenOk, alen, ti9, isStrD, h0, h1, h5, hx', hy']; refine hk _ _ ?_; clear hk k) | (refine WP.r fun k hk => ?_; simp [abuiltin, alenOk, alen, ti9, isStrD, h0, h1, h5, hx', hy']; refine hk _ _ ?_; clear hk k)
        | (refine WP.sd _ rfl fun k hk => ?_; simp [abuiltin, alenOk, alen, ti9, isStrD, h0, h1, h5, hx', hy']; refine hk _ _ ?_; clear hk k) | (refine WP.d _ rfl fun k hk => ?_; simp [abuiltin, alenOk, alen, ti9, isStrD, h0, h1, h5, hx', hy']; refine hk _ _ ?_; clear hk k)
        | (refine WP.cc fun A B hA hB => ?_; simp [abuiltin, alenOk, alen, ti9, isStrD, h0, h1, h5, hx', hy', onB_t, onB_f]; first | (refine hA ?_; clear hA hB A B) | (refine hB ?_; clear hA hB A B) | (refine onB_if (fun h => hA ?_) (fun h => hB ?_) <;> clear hA hB A B))
        | refine WP.q ?_ | refine WP.b ?_)
      all_goals (simp at *; rw [hc]; unfold cmpI; first | (rw [if_pos (by omega)]; done) | (rw [if_neg (by omega), if_pos (by omega)]; done) | rw [if_neg (by omega), if_neg (by omega)])
    · skip
      repeat' (first
        | refine WP.t ?_ | refine WP.k ?_ | refine WP.e ?_ | refine Qn ?_ | refine Qr ?_ | refine Qe ?_ | refine Bn ?_ | refine Br ?_ | refine Be ?_ | refine Bx (by decide) ?_
        | (refine WP.sr fun k hk => ?_; simp [abuiltin, alenOk, alen, ti9, isStrD, h0, h1, h5, hx']; refine hk _ _ ?_; clear hk k) | (refine WP.r fun k hk => ?_; simp [abuiltin, alenOk, alen, ti9, isStrD, h0, h1, h5, hx']; refine hk _ _ ?_; clear hk k)
        | (refine WP.sd _ rfl fun k hk => ?_; simp [abuiltin, alenOk, alen, ti9, isStrD, h0, h1, h5, hx']; refine hk _ _ ?_; clear hk k) | (refine WP.d _ rfl fun k hk => ?_; simp [abuiltin, alenOk, alen, ti9, isStrD, h0, h1, h5, hx']; refine hk _ _ ?_; clear hk k)
        | (refine WP.cc fun A B hA hB => ?_; simp [abuiltin, alenOk, alen, ti9, isStrD, h0, h1, h5, hx', onB_t, onB_f]; first | (refine hA ?_; clear hA hB A B) | (refine hB ?_; clear hA hB A B) | (refine onB_if (fun h => hA ?_) (fun h => hB ?_) <;> clear hA hB A B))
        | refine WP.q ?_ | refine WP.b ?_)
      all_goals (simp at *; rw [hc]; unfold cmpI; first | (rw [if_pos (by omega)]; done) | (rw [if_neg (by omega), if_pos (by omega)]; done) | rw [if_neg (by omega), if_neg (by omega)])
def pTexts : List AV → Option AV
  | [.str x, .str y] => if x.length < LIM ∧ y.length < LIM then some (.int .i64 (cmpS x y)) else none
  | _ => none
def F14 : Fns := F13.addP 49 pTexts
theorem F14_ok (hK : 0 < K) (hT : Tens gw) : FOk (env K gw) F14 := by
  refine (F13_ok hK hT).addP ?_
  intro xs s r h; unfold pTexts at h; split at h
  · split at h
    · rename_i hl; cases h; exact ft49 _ _ hl.1 hl.2
    · cases h
  · cases h
theorem ft33 (hK : 0 < K) (hT : Tens gw) (v u : V) (hv : v.s.length < LIM) (hu : u.s.length < LIM) : FT (env K gw) NoW 33 [.agg v.cs, .agg u.cs] s (.int .i64 (cmpV v u)) s := by
  refine FT.pure (fn := Tryd.f33) (F14_ok hK hT) mixed Tryd.func33 (by kernel_rfl) (by rfl) rfl rfl (by simp) rfl fun μ w => ?_
  obtain ⟨b, x, n⟩ := v
  obtain ⟨b', x', n'⟩ := u
  simp only at hv hu
  cases b <;> cases b'
  all_goals
    repeat' (first
      | refine WP.t ?_ | refine WP.k ?_ | refine WP.e ?_ | refine Qn ?_ | refine Qr ?_ | refine Qe ?_ | refine Bn ?_ | refine Br ?_ | refine Be ?_ | refine Bx (by decide) ?_
      | (refine WP.sr fun k hk => ?_; simp [F14, pTexts, hv, hu, ti34, ti4, ti9, ti2, V.cs, aeq]; refine hk _ _ ?_; clear hk k) | (refine WP.r fun k hk => ?_; simp [F14, pTexts, hv, hu, ti34, ti4, ti9, ti2, V.cs, aeq]; refine hk _ _ ?_; clear hk k)
      | (refine WP.sd _ rfl fun k hk => ?_; simp [F14, pTexts, hv, hu, ti34, ti4, ti9, ti2, V.cs, aeq]; refine hk _ _ ?_; clear hk k) | (refine WP.d _ rfl fun k hk => ?_; simp [F14, pTexts, hv, hu, ti34, ti4, ti9, ti2, V.cs, aeq]; refine hk _ _ ?_; clear hk k)
      | (refine WP.cc fun A B hA hB => ?_; simp [F14, pTexts, hv, hu, ti34, ti4, ti9, ti2, V.cs, aeq, onB_t, onB_f]; first | (refine hA ?_; clear hA hB A B) | (refine hB ?_; clear hA hB A B) | (refine onB_if (fun h => hA ?_) (fun h => hB ?_) <;> clear hA hB A B))
      | refine WP.q ?_ | refine WP.b ?_)
  all_goals (simp at *; try simp [cmpV, cmpI]; try omega)
def pComp : List AV → Option AV
  | [.agg a, .agg b] => match decV a, decV b with
    | some v, some u => if v.s.length < LIM ∧ u.s.length < LIM then some (.int .i64 (cmpV v u)) else none
    | _, _ => none
  | _ => none
def F15 : Fns := F14.addP 33 pComp
theorem F15_ok (hK : 0 < K) (hT : Tens gw) : FOk (env K gw) F15 := by
  refine (F14_ok hK hT).addP ?_
  intro xs s r h; unfold pComp at h; split at h
  · split at h
    · rename_i h1 h2
      split at h
      · rename_i hl; cases h; rw [decV_eq h1, decV_eq h2]; exact ft33 hK hT _ _ hl.1 hl.2
      · cases h
    · cases h
  · cases h
theorem ft15 (hK : 0 < K) (hT : Tens gw) (v u : V) (hv : v.s.length < LIM) (hu : u.s.length < LIM) : FT (env K gw) NoW 15 [.agg v.cs, .agg u.cs] s (.bool (cmpV v u == 0)) s := by
  refine FT.pure (fn := Tryd.f15) (F15_ok hK hT) mixed Tryd.func15 (by kernel_rfl) (by rfl) rfl rfl (by simp) rfl fun μ w => ?_
  obtain ⟨b, x, n⟩ := v
  obtain ⟨b', x', n'⟩ := u
  simp only at hv hu
  repeat' (first
    | refine WP.t ?_ | refine WP.k ?_ | refine WP.e ?_ | refine Qn ?_ | refine Qr ?_ | refine Qe ?_ | refine Bn ?_ | refine Br ?_ | refine Be ?_ | refine Bx (by decide) ?_
    | (refine WP.sr fun k hk => ?_; simp [F15, pComp, decV, hv, hu, ti34, ti4, ti9, ti2, V.cs, aeq]; refine hk _ _ ?_; clear hk k) | (refine WP.r fun k hk => ?_; simp [F15, pComp, decV, hv, hu, ti34, ti4, ti9, ti2, V.cs, aeq]; refine hk _ _ ?_; clear hk k)
    | (refine WP.sd _ rfl fun k hk => ?_; simp [F15, pComp, decV, hv, hu, ti34, ti4, ti9, ti2, V.cs, aeq]; refine hk _ _ ?_; clear hk k) | (refine WP.d _ rfl fun k hk => ?_; simp [F15, pComp, decV, hv, hu, ti34, ti4, ti9, ti2, V.cs, aeq]; refine hk _ _ ?_; clear hk k)
    | (refine WP.cc fun A B hA hB => ?_; simp [F15, pComp, decV, hv, hu, ti34, ti4, ti9, ti2, V.cs, aeq, onB_t, onB_f]; first | (refine hA ?_; clear hA hB A B) | (refine hB ?_; clear hA hB A B) | (refine onB_if (fun h => hA ?_) (fun h => hB ?_) <;> clear hA hB A B))
    | refine WP.q ?_ | refine WP.b ?_)
  simp
def pSameV : List AV → Option AV
  | [.agg a, .agg b] => match decV a, decV b with
    | some v, some u => if v.s.length < LIM ∧ u.s.length < LIM then some (.bool (cmpV v u == 0)) else none
    | _, _ => none
  | _ => none
def F16 : Fns := F15.addP 15 pSameV
theorem F16_ok (hK : 0 < K) (hT : Tens gw) : FOk (env K gw) F16 := by
  refine (F15_ok hK hT).addP ?_
  intro xs s r h; unfold pSameV at h; split at h
  · split at h
    · rename_i h1 h2
      split at h
      · rename_i hl; cases h; rw [decV_eq h1, decV_eq h2]; exact ft15 hK hT _ _ hl.1 hl.2
      · cases h
    · cases h
  · cases h
end
end Go.Am
namespace Go.Am
open Go.Proofs
section
variable {K : Nat} {gw : World} {s : St}
attribute [local simp] RS_cons' RS_nil RQ_nil RQ_cons' awanted xop zOf zrow aop ev T0 Slots.put Slots.set Slots.get awr WOk AV.may ofConst abinop aint isConst St.get_push St.get_put St.live AV.fit AV.cells AV.one fieldOf afieldAddr aload ofCells astore splice May eqres env_ti FinP ares aresL ares1 Fns.addP Fns.add
theorem ti27 : tiOf Tryd.prog 27 = some ⟨1, 24, false, [.slice none 0 0], .slice 3, false, false⟩ := by kernel_rfl
theorem ti28 : tiOf Tryd.prog 28 = some ⟨1, 8, false, [.int .i64 0], .int .i64, false, false⟩ := by kernel_rfl
theorem V.ext' {v u : V} (h1 : v.b = u.b) (h2 : v.s = u.s) (h3 : v.n = u.n) : v = u := by cases v; cases u; simp at h1 h2 h3; simp [*]
theorem kV : kindsT (env K gw) 9 34 = some [CK.b, CK.s, CK.i] := by simp [kindsT, kindsD, kindsFs, env_ti, ti34, ti4, ti9, ti2]
open Classical in
theorem ft14 (x y : List V) (hx : x.length < LIM) (hy : y.length < LIM) : FT (env K gw) NoW 14 [.sl (x.map V.cs), .sl (y.map V.cs)] s (.bool (decide (x = y))) s := by
  refine FT.pure (fn := Tryd.f14) F0_ok mixed Tryd.func14 (by kernel_rfl) (by rfl) rfl rfl (by simp) rfl fun μ w => ?_
  by_cases hl : x.length = y.length
  · skip
    repeat' (first
      | refine WP.t ?_ | refine WP.k ?_ | refine WP.e ?_ | refine Qn ?_ | refine Qr ?_ | refine Qe ?_ | refine Bn ?_ | refine Br ?_ | refine Be ?_ | refine Bx (by decide) ?_
      | (refine WP.sr fun k hk => ?_; simp [abuiltin, alenOk, alen, ti22, hl]; refine hk _ _ ?_; clear hk k) | (refine WP.r fun k hk => ?_; simp [abuiltin, alenOk, alen, ti22, hl]; refine hk _ _ ?_; clear hk k)
      | (refine WP.sd _ rfl fun k hk => ?_; simp [abuiltin, alenOk, alen, ti22, hl]; refine hk _ _ ?_; clear hk k) | (refine WP.d _ rfl fun k hk => ?_; simp [abuiltin, alenOk, alen, ti22, hl]; refine hk _ _ ?_; clear hk k)
      | (refine WP.cc fun A B hA hB => ?_; simp [abuiltin, alenOk, alen, ti22, hl, onB_t, onB_f]; first | (refine hA ?_; clear hA hB A B) | (refine hB ?_; clear hA hB A B) | (refine onB_if (fun h => hA ?_) (fun h => hB ?_) <;> clear hA hB A B))
      | refine WP.q ?_ | refine WP.b ?_)
    refine WP_loop (fun n T s' => ∃ i : Nat, n + i = x.length ∧ s' = s ∧ T.get 0 = .sl (x.map V.cs) ∧ T.get 1 = .sl (y.map V.cs) ∧ T.get 5 = .int .i64 i ∧ x.take i = y.take i) x.length ⟨0, by simp, rfl, by simp, by simp, by simp, by simp⟩ ?_
    rintro n T s' ⟨i, hn, rfl, h0, h1, h5, hc⟩
    by_cases hi : i < x.length
    · have hi' : i < y.length := by omega
      have hw : IntKind.i64.wrap ((i : Int) + 1) = (i : Int) + 1 := wrap64 (by omega) (by simp only [LIM] at hx; omega)
      have ha : x[i]? = some x[i] := List.getElem?_eq_getElem hi
      have hb : y[i]? = some y[i] := List.getElem?_eq_getElem hi'
      have t1 : x.take (i + 1) = x.take i ++ [x[i]] := List.take_succ_eq_append_getElem hi
      have t2 : y.take (i + 1) = y.take i ++ [y[i]] := List.take_succ_eq_append_getElem hi'
      repeat' (first
        | refine WP.t ?_ | refine WP.k ?_ | refine WP.e ?_ | refine Qn ?_ | refine Qr ?_ | refine Qe ?_ | refine Bn ?_ | refine Br ?_ | refine Be ?_ | refine Bx (by decide) ?_
        | (refine WP.sr fun k hk => ?_; simp [abuiltin, alenOk, alen, ti22, ti34, h0, h1, h5, hi, hi', ha, hb, hw, V.cs, aindex, elemOfT, aeq, kV, AV.ck, avseq, aveq]; refine hk _ _ ?_; clear hk k) | (refine WP.r fun k hk => ?_; simp [abuiltin, alenOk, alen, ti22, ti34, h0, h1, h5, hi, hi', ha, hb, hw, V.cs, aindex, elemOfT, aeq, kV, AV.ck, avseq, aveq]; refine hk _ _ ?_; clear hk k)
        | (refine WP.sd _ rfl fun k hk => ?_; simp [abuiltin, alenOk, alen, ti22, ti34, h0, h1, h5, hi, hi', ha, hb, hw, V.cs, aindex, elemOfT, aeq, kV, AV.ck, avseq, aveq]; refine hk _ _ ?_; clear hk k) | (refine WP.d _ rfl fun k hk => ?_; simp [abuiltin, alenOk, alen, ti22, ti34, h0, h1, h5, hi, hi', ha, hb, hw, V.cs, aindex, elemOfT, aeq, kV, AV.ck, avseq, aveq]; refine hk _ _ ?_; clear hk k)
        | (refine WP.cc fun A B hA hB => ?_; simp [abuiltin, alenOk, alen, ti22, ti34, h0, h1, h5, hi, hi', ha, hb, hw, V.cs, aindex, elemOfT, aeq, kV, AV.ck, avseq, aveq, onB_t, onB_f]; first | (refine hA ?_; clear hA hB A B) | (refine hB ?_; clear hA hB A B) | (refine onB_if (fun h => hA ?_) (fun h => hB ?_) <;> clear hA hB A B))
        | refine WP.q ?_ | refine WP.b ?_)
      · have hne : ¬ x = y := by
          intro e
          have : x[i] = y[i] := by simp only [e]
          rw [this] at h
          simp at h
        simp [hne]
      · have he : x[i] = y[i] := by
          simp at h
          exact V.ext' h.1 h.2.1 h.2.2
        exact ⟨n - 1, by omega, i + 1, by omega, rfl, by simp [h0], by simp [h1], by simp, by rw [t1, t2, hc, he]⟩
    · have he : x = y := by
        have e1 : i = x.length := by omega
        have e2 : i = y.length := by omega
        have h3 : x.take i = x := by rw [e1, List.take_length]
        have h4 : y.take i = y := by rw [e2, List.take_length]
        rw [← h3, ← h4, hc]
      have hi' : ¬ i < y.length := by omega
      repeat' (first
        | refine WP.t ?_ | refine WP.k ?_ | refine WP.e ?_ | refine Qn ?_ | refine Qr ?_ | refine Qe ?_ | refine Bn ?_ | refine Br ?_ | refine Be ?_ | refine Bx (by decide) ?_
        | (refine WP.sr fun k hk => ?_; simp [abuiltin, alenOk, alen, ti22, h0, h1, h5, hi, hi']; refine hk _ _ ?_; clear hk k) | (refine WP.r fun k hk => ?_; simp [abuiltin, alenOk, alen, ti22, h0, h1, h5, hi, hi']; refine hk _ _ ?_; clear hk k)
        | (refine WP.sd _ rfl fun k hk => ?_; simp [abuiltin, alenOk, alen, ti22, h0, h1, h5, hi, hi']; refine hk _ _ ?_; clear hk k) | (refine WP.d _ rfl fun k hk => ?_; simp [abuiltin, alenOk, alen, ti22, h0, h1, h5, hi, hi']; refine hk _ _ ?_; clear hk k)
        | (refine WP.cc fun A B hA hB => ?_; simp [abuiltin, alenOk, alen, ti22, h0, h1, h5, hi, hi', onB_t, onB_f]; first | (refine hA ?_; clear hA hB A B) | (refine hB ?_; clear hA hB A B) | (refine onB_if (fun h => hA ?_) (fun h => hB ?_) <;> clear hA hB A B))
        | refine WP.q ?_ | refine WP.b ?_)
      simp [he]
  · have hl' : ¬ y.length = x.length := fun e => hl e.symm
    have hne : ¬ x = y := by rintro rfl; exact hl rfl
    have hb : ((x.length : Int) != (y.length : Int)) = true := by rw [bne_iff_ne]; omega
    repeat' (first
      | refine WP.t ?_ | refine WP.k ?_ | refine WP.e ?_ | refine Qn ?_ | refine Qr ?_ | refine Qe ?_ | refine Bn ?_ | refine Br ?_ | refine Be ?_ | refine Bx (by decide) ?_
      | (refine WP.sr fun k hk => ?_; simp [abuiltin, alenOk, alen, ti22, hl, hl', hb]; refine hk _ _ ?_; clear hk k) | (refine WP.r fun k hk => ?_; simp [abuiltin, alenOk, alen, ti22, hl, hl', hb]; refine hk _ _ ?_; clear hk k)
      | (refine WP.sd _ rfl fun k hk => ?_; simp [abuiltin, alenOk, alen, ti22, hl, hl', hb]; refine hk _ _ ?_; clear hk k) | (refine WP.d _ rfl fun k hk => ?_; simp [abuiltin, alenOk, alen, ti22, hl, hl', hb]; refine hk _ _ ?_; clear hk k)
      | (refine WP.cc fun A B hA hB => ?_; simp [abuiltin, alenOk, alen, ti22, hl, hl', hb, onB_t, onB_f]; first | (refine hA ?_; clear hA hB A B) | (refine hB ?_; clear hA hB A B) | (refine onB_if (fun h => hA ?_) (fun h => hB ?_) <;> clear hA hB A B))
      | refine WP.q ?_ | refine WP.b ?_)
    simp [hne]
open Classical in
noncomputable def pSameT : List AV → Option AV
  | [.sl a, .sl b] => match decL a, decL b with
    | some x, some y => if x.length < LIM ∧ y.length < LIM then some (.bool (decide (x = y))) else none
    | _, _ => none
  | _ => none
noncomputable def F17 : Fns := F16.addP 14 pSameT
theorem F17_ok (hK : 0 < K) (hT : Tens gw) : FOk (env K gw) F17 := by
  refine (F16_ok hK hT).addP ?_
  intro xs s r h; unfold pSameT at h; split at h
  · split at h
    · rename_i h1 h2
      split at h
      · rename_i hl; cases h; rw [decL_eq h1, decL_eq h2]; exact ft14 _ _ hl.1 hl.2
      · cases h
    · cases h
  · cases h
/-! ### Project -/
def okI (l : List V) (j : Int) : Bool := decide (0 ≤ j) && decide (j < l.length)
def getI (l : List V) (j : Int) : V := (l[j.toNat]?).getD ⟨false, [], 0⟩
def ints (c : List Int) : List (List AV) := c.map fun j => [.int .i64 j]
def decI : List (List AV) → Option (List Int)
  | [] => some []
  | [.int .i64 j] :: l => match decI l with
    | some c => some (j :: c)
    | _ => none
  | _ => none
@[simp] theorem decI_ints (c : List Int) : decI (ints c) = some c := by
  induction c with
  | nil => rfl
  | cons j c ih => simp only [ints] at ih; simp [ints, decI, ih]
theorem decI_eq {c : List (List AV)} {v : List Int} (h : decI c = some v) : c = ints v := by
  induction c generalizing v with
  | nil => cases h; rfl
  | cons x c ih =>
    unfold decI at h
    split at h
    · rename_i heq; cases heq
    · rename_i heq
      cases heq
      split at h
      · rename_i hc
        cases h
        rw [ih hc]; rfl
      · cases h
    · cases h
def projT (l : List V) (c : List Int) : AV := if c.all (okI l) then .tup [.sl ((c.map (getI l)).map V.cs), .int .i64 0] else .tup [.sl [], .int .i64 1]
theorem frz_pair {s1 : St} {n : Nat} {x y x' y' : AV} (h1 : Frz s1 n x x') (h2 : Frz s1 n y y') : ∀ (i : Nat) a b, ([x, y] : List AV)[i]? = some a → ([x', y'] : List AV)[i]? = some b → Frz s1 n a b := by
  intro i a b ha hb
  match i, ha, hb with
  | 0, ha, hb => simp at ha hb; subst ha; subst hb; exact h1
  | 1, ha, hb => simp at ha hb; subst ha; subst hb; exact h2
theorem frz_bad {s1 : St} {n : Nat} : Frz s1 n (.tup [.nsl, .int .i64 1]) (.tup [.sl [], .int .i64 1]) := .tup _ _ rfl (frz_pair .nil (.same _ (.int _ _)))
theorem below_rows (n : Nat) (l : List V) : Below n (.sl (l.map V.cs)) := by simp [V.cs]
theorem frz_rows {s1 : St} {n rd : Nat} {k : RK} {l : List V} (hr : s1.get rd = some (.row 3 k (l.map V.cs))) (hn : n ≤ rd) : Frz s1 n (.ls rd 0 (l.map V.cs).length) (.sl (l.map V.cs)) := by
  refine .row rd 3 k _ _ hr hn rfl (fun e he => ?_) (fun i j y hy => ⟨y, hy⟩) (fun i j x y hx hy => ?_)
  · obtain ⟨v, _, rfl⟩ := List.mem_map.1 he; rfl
  · rw [hx] at hy
    obtain rfl := Option.some.inj hy
    refine .same x ?_
    cases below_rows n l with
    | sl _ h => exact h i j x hx
theorem ft13 (l : List V) (c : List Int) (hl : l.length < 1073741824) (hc : c.length < 1073741824) : FT (env K gw) NoW 13 [.sl (l.map V.cs), .sl (ints c)] s (projT l c) s := by
  refine FT.data (fn := Tryd.f13) F0_ok mixed Tryd.func13 (by kernel_rfl) (by rfl) rfl rfl (by simp) rfl fun μ w => ?_
  repeat' (first
    | refine WP.t ?_ | refine WP.k ?_ | refine WP.e ?_ | refine Qn ?_ | refine Qr ?_ | refine Qe ?_ | refine Bn ?_ | refine Br ?_ | refine Be ?_ | refine Bx (by decide) ?_
    | (refine WP.sr fun k hk => ?_; simp [abuiltin, alenOk, alen, ti27, ints]; refine hk _ _ ?_; clear hk k) | (refine WP.r fun k hk => ?_; simp [abuiltin, alenOk, alen, ti27, ints]; refine hk _ _ ?_; clear hk k)
    | (refine WP.sd _ rfl fun k hk => ?_; simp [abuiltin, alenOk, alen, ti27, ints]; refine hk _ _ ?_; clear hk k) | (refine WP.d _ rfl fun k hk => ?_; simp [abuiltin, alenOk, alen, ti27, ints]; refine hk _ _ ?_; clear hk k)
    | (refine WP.cc fun A B hA hB => ?_; simp [abuiltin, alenOk, alen, ti27, ints, onB_t, onB_f]; first | (refine hA ?_; clear hA hB A B) | (refine hB ?_; clear hA hB A B) | (refine onB_if (fun h => hA ?_) (fun h => hB ?_) <;> clear hA hB A B))
    | refine WP.q ?_ | refine WP.b ?_)
  refine WP_loop (fun n T s' => ∃ i : Nat, n + i = c.length ∧ T.get 0 = .sl (l.map V.cs) ∧ T.get 9 = .sl (ints c) ∧ T.get 10 = .int .i64 c.length ∧ T.get 11 = .int .i64 i ∧ s.nx ≤ s'.nx ∧ (c.take i).all (okI l) = true ∧
    ((i = 0 ∧ T.get 6 = .nsl) ∨ (0 < i ∧ ∃ rd, s.nx ≤ rd ∧ rd < s'.nx ∧ T.get 6 = .ls rd 0 i ∧ s'.get rd = some (.row 3 (true, 34) (((c.take i).map (getI l)).map V.cs))))) c.length ⟨0, by simp, by simp, by simp [ints], by simp, by simp, by simp, by simp, .inl ⟨rfl, by simp⟩⟩ ?_
  rintro n T s' ⟨i, hni, h0, h9, h10, h11, hnx, hok, hB⟩
  by_cases hi : i < c.length
  · have hw : IntKind.i64.wrap ((i : Int) + 1) = (i : Int) + 1 := wrap64 (by omega) (by omega)
    have ha : c[i]? = some c[i] := List.getElem?_eq_getElem hi
    have hai : (ints c)[i]? = some [.int .i64 c[i]] := by simp [ints, ha]
    have hil : (ints c).length = c.length := by simp [ints]
    have hlt : ((i : Int) < (c.length : Int)) := by omega
    have htk : c.take (i + 1) = c.take i ++ [c[i]] := List.take_succ_eq_append_getElem hi
    have hmem : c[i] ∈ c := List.getElem_mem hi
    generalize hv : c[i] = j at *
    by_cases hbad : okI l j = true
    · have hj : 0 ≤ j ∧ j < l.length := by simpa [okI] using hbad
      have hj0 : ¬ j < 0 := by omega
      have hj1 : ¬ (l.length : Int) ≤ j := by omega
      have hj2 : j.toNat < l.length := by omega
      have hjj : j < (l.length : Int) := hj.2
      have hjp : 0 ≤ j := hj.1
      have hl2 : l[j.toNat]? = some (getI l j) := by
        have : l[j.toNat]? = some l[j.toNat] := List.getElem?_eq_getElem hj2
        simp only [getI, this]; rfl
      have hok2 : (c.take (i + 1)).all (okI l) = true := by
        rw [htk, List.all_append, hok]; simp [hbad]
      generalize hg : getI l j = g at *
      have hg2 : l[j.toNat] = g := by
        have := List.getElem?_eq_getElem hj2
        rw [this] at hl2
        exact Option.some.inj hl2
      rcases hB with ⟨rfl, h3⟩ | ⟨hi0, rd, hrd, hrd2, h3, hr⟩
      · skip
        repeat' (first
          | refine WP.t ?_ | refine WP.k ?_ | refine WP.e ?_ | refine Qn ?_ | refine Qr ?_ | refine Qe ?_ | refine Bn ?_ | refine Br ?_ | refine Be ?_ | refine Bx (by decide) ?_
          | (refine WP.sr fun k hk => ?_; simp [h0, h3, h9, h10, h11, hlt, hi, ha, hv, ints, hw, hnx, hj0, hj1, hj2, hjj, hjp, hl2, aindex, elemOfT, elemId, ti27, ti3, ti22, ti34, V.cs, abuildSlice, afill, chunks, abuiltin, alen, alenOk, ard, aappend, isSS, AV.isStr, hg2]; refine hk _ _ ?_; clear hk k) | (refine WP.r fun k hk => ?_; simp [h0, h3, h9, h10, h11, hlt, hi, ha, hv, ints, hw, hnx, hj0, hj1, hj2, hjj, hjp, hl2, aindex, elemOfT, elemId, ti27, ti3, ti22, ti34, V.cs, abuildSlice, afill, chunks, abuiltin, alen, alenOk, ard, aappend, isSS, AV.isStr, hg2]; refine hk _ _ ?_; clear hk k)
          | (refine WP.sd _ rfl fun k hk => ?_; simp [h0, h3, h9, h10, h11, hlt, hi, ha, hv, ints, hw, hnx, hj0, hj1, hj2, hjj, hjp, hl2, aindex, elemOfT, elemId, ti27, ti3, ti22, ti34, V.cs, abuildSlice, afill, chunks, abuiltin, alen, alenOk, ard, aappend, isSS, AV.isStr, hg2]; refine hk _ _ ?_; clear hk k) | (refine WP.d _ rfl fun k hk => ?_; simp [h0, h3, h9, h10, h11, hlt, hi, ha, hv, ints, hw, hnx, hj0, hj1, hj2, hjj, hjp, hl2, aindex, elemOfT, elemId, ti27, ti3, ti22, ti34, V.cs, abuildSlice, afill, chunks, abuiltin, alen, alenOk, ard, aappend, isSS, AV.isStr, hg2]; refine hk _ _ ?_; clear hk k)
          | (refine WP.cc fun A B hA hB => ?_; simp [h0, h3, h9, h10, h11, hlt, hi, ha, hv, ints, hw, hnx, hj0, hj1, hj2, hjj, hjp, hl2, aindex, elemOfT, elemId, ti27, ti3, ti22, ti34, V.cs, abuildSlice, afill, chunks, abuiltin, alen, alenOk, ard, aappend, isSS, AV.isStr, hg2, onB_t, onB_f]; first | (refine hA ?_; clear hA hB A B) | (refine hB ?_; clear hA hB A B) | (refine onB_if (fun h => hA ?_) (fun h => hB ?_) <;> clear hA hB A B))
          | refine WP.q ?_ | refine WP.b ?_)
        refine ⟨n - 1, by omega, 1, by omega, by simp [h0], by simp [h9, ints], by simp [h10], by simp [wrap64 (x := 1) (by omega) (by omega)], by simp; omega, hok2, .inr ⟨by omega, s'.nx + 1, by omega, by simp, by simp, ?_⟩⟩
        rw [htk]
        simp [V.cs, hg]
      · have n1 : ¬ rd = s'.nx := by omega
        have n2 : ¬ rd = s'.nx + 1 := by omega
        have hmin : min i c.length = i := by omega
        have hby : (i + 1) * 32 ≤ 140737488355328 := by omega
        repeat' (first
          | refine WP.t ?_ | refine WP.k ?_ | refine WP.e ?_ | refine Qn ?_ | refine Qr ?_ | refine Qe ?_ | refine Bn ?_ | refine Br ?_ | refine Be ?_ | refine Bx (by decide) ?_
          | (refine WP.sr fun k hk => ?_; simp [h0, h3, h9, h10, h11, hlt, hi, ha, hv, ints, hw, hnx, hj0, hj1, hj2, hjj, hjp, hl2, aindex, elemOfT, elemId, ti27, ti3, ti22, ti34, V.cs, abuildSlice, afill, chunks, abuiltin, alen, alenOk, ard, aappend, isSS, AV.isStr, hg2, hr, n1, n2, hmin, hby, hrd]; refine hk _ _ ?_; clear hk k) | (refine WP.r fun k hk => ?_; simp [h0, h3, h9, h10, h11, hlt, hi, ha, hv, ints, hw, hnx, hj0, hj1, hj2, hjj, hjp, hl2, aindex, elemOfT, elemId, ti27, ti3, ti22, ti34, V.cs, abuildSlice, afill, chunks, abuiltin, alen, alenOk, ard, aappend, isSS, AV.isStr, hg2, hr, n1, n2, hmin, hby, hrd]; refine hk _ _ ?_; clear hk k)
          | (refine WP.sd _ rfl fun k hk => ?_; simp [h0, h3, h9, h10, h11, hlt, hi, ha, hv, ints, hw, hnx, hj0, hj1, hj2, hjj, hjp, hl2, aindex, elemOfT, elemId, ti27, ti3, ti22, ti34, V.cs, abuildSlice, afill, chunks, abuiltin, alen, alenOk, ard, aappend, isSS, AV.isStr, hg2, hr, n1, n2, hmin, hby, hrd]; refine hk _ _ ?_; clear hk k) | (refine WP.d _ rfl fun k hk => ?_; simp [h0, h3, h9, h10, h11, hlt, hi, ha, hv, ints, hw, hnx, hj0, hj1, hj2, hjj, hjp, hl2, aindex, elemOfT, elemId, ti27, ti3, ti22, ti34, V.cs, abuildSlice, afill, chunks, abuiltin, alen, alenOk, ard, aappend, isSS, AV.isStr, hg2, hr, n1, n2, hmin, hby, hrd]; refine hk _ _ ?_; clear hk k)
          | (refine WP.cc fun A B hA hB => ?_; simp [h0, h3, h9, h10, h11, hlt, hi, ha, hv, ints, hw, hnx, hj0, hj1, hj2, hjj, hjp, hl2, aindex, elemOfT, elemId, ti27, ti3, ti22, ti34, V.cs, abuildSlice, afill, chunks, abuiltin, alen, alenOk, ard, aappend, isSS, AV.isStr, hg2, hr, n1, n2, hmin, hby, hrd, onB_t, onB_f]; first | (refine hA ?_; clear hA hB A B) | (refine hB ?_; clear hA hB A B) | (refine onB_if (fun h => hA ?_) (fun h => hB ?_) <;> clear hA hB A B))
          | refine WP.q ?_ | refine WP.b ?_)
        refine ⟨n - 1, by omega, i + 1, by omega, by simp [h0], by simp [h9, ints], by simp [h10], by simp, by simp; omega, hok2, .inr ⟨by omega, s'.nx + 1, by omega, by simp, by simp, ?_⟩⟩
        have e2 : ∀ s2 : St, s2.nx = s'.nx + 1 → ∀ o, (s2.push o).get (s'.nx + 1) = some o := fun s2 h o => by rw [← h]; exact St.get_push_same _ _
        rw [e2 _ (by simp), htk]
        simp only [List.map_append, List.map_cons, List.map_nil, hg]
        have e3 : List.map V.cs (List.map (getI l) (List.take i c)) = List.take i (List.map (V.cs ∘ getI l) c) := by simp
        rw [e3]
        rfl
    · have hj : j < 0 ∨ (0 ≤ j ∧ (l.length : Int) ≤ j) := by
        simp [okI] at hbad
        omega
      have hres : projT l c = .tup [.sl [], .int .i64 1] := by
        unfold projT
        rw [if_neg]
        intro h
        exact hbad (List.all_eq_true.1 h j hmem)
      rw [hres]
      rcases hj with hj | ⟨hj, hj1⟩
      · skip
        repeat' (first
          | refine WP.t ?_ | refine WP.k ?_ | refine WP.e ?_ | refine Qn ?_ | refine Qr ?_ | refine Qe ?_ | refine Bn ?_ | refine Br ?_ | refine Be ?_ | refine Bx (by decide) ?_
          | (refine WP.sr fun k hk => ?_; simp [h0, h9, h10, h11, hlt, hi, ha, hv, ints, hj, aindex, elemOfT, ti27, ti3, ti22, alen, alenOk, abuiltin]; refine hk _ _ ?_; clear hk k) | (refine WP.r fun k hk => ?_; simp [h0, h9, h10, h11, hlt, hi, ha, hv, ints, hj, aindex, elemOfT, ti27, ti3, ti22, alen, alenOk, abuiltin]; refine hk _ _ ?_; clear hk k)
          | (refine WP.sd _ rfl fun k hk => ?_; simp [h0, h9, h10, h11, hlt, hi, ha, hv, ints, hj, aindex, elemOfT, ti27, ti3, ti22, alen, alenOk, abuiltin]; refine hk _ _ ?_; clear hk k) | (refine WP.d _ rfl fun k hk => ?_; simp [h0, h9, h10, h11, hlt, hi, ha, hv, ints, hj, aindex, elemOfT, ti27, ti3, ti22, alen, alenOk, abuiltin]; refine hk _ _ ?_; clear hk k)
          | (refine WP.cc fun A B hA hB => ?_; simp [h0, h9, h10, h11, hlt, hi, ha, hv, ints, hj, aindex, elemOfT, ti27, ti3, ti22, alen, alenOk, abuiltin, onB_t, onB_f]; first | (refine hA ?_; clear hA hB A B) | (refine hB ?_; clear hA hB A B) | (refine onB_if (fun h => hA ?_) (fun h => hB ?_) <;> clear hA hB A B))
          | refine WP.q ?_ | refine WP.b ?_)
        exact ⟨.inr rfl, .tup [.nsl, .int .i64 1], by simp, frz_bad⟩
      · have hj0 : ¬ j < 0 := by omega
        repeat' (first
          | refine WP.t ?_ | refine WP.k ?_ | refine WP.e ?_ | refine Qn ?_ | refine Qr ?_ | refine Qe ?_ | refine Bn ?_ | refine Br ?_ | refine Be ?_ | refine Bx (by decide) ?_
          | (refine WP.sr fun k hk => ?_; simp [h0, h9, h10, h11, hlt, hi, ha, hv, ints, hj, hj0, hj1, aindex, elemOfT, ti27, ti3, ti22, alen, alenOk, abuiltin]; refine hk _ _ ?_; clear hk k) | (refine WP.r fun k hk => ?_; simp [h0, h9, h10, h11, hlt, hi, ha, hv, ints, hj, hj0, hj1, aindex, elemOfT, ti27, ti3, ti22, alen, alenOk, abuiltin]; refine hk _ _ ?_; clear hk k)
          | (refine WP.sd _ rfl fun k hk => ?_; simp [h0, h9, h10, h11, hlt, hi, ha, hv, ints, hj, hj0, hj1, aindex, elemOfT, ti27, ti3, ti22, alen, alenOk, abuiltin]; refine hk _ _ ?_; clear hk k) | (refine WP.d _ rfl fun k hk => ?_; simp [h0, h9, h10, h11, hlt, hi, ha, hv, ints, hj, hj0, hj1, aindex, elemOfT, ti27, ti3, ti22, alen, alenOk, abuiltin]; refine hk _ _ ?_; clear hk k)
          | (refine WP.cc fun A B hA hB => ?_; simp [h0, h9, h10, h11, hlt, hi, ha, hv, ints, hj, hj0, hj1, aindex, elemOfT, ti27, ti3, ti22, alen, alenOk, abuiltin, onB_t, onB_f]; first | (refine hA ?_; clear hA hB A B) | (refine hB ?_; clear hA hB A B) | (refine onB_if (fun h => hA ?_) (fun h => hB ?_) <;> clear hA hB A B))
          | refine WP.q ?_ | refine WP.b ?_)
        exact ⟨.inr rfl, .tup [.nsl, .int .i64 1], by simp, frz_bad⟩
  · have hlt : ¬ ((i : Int) < (c.length : Int)) := by omega
    have he : i = c.length := by omega
    have ht : c.take i = c := by rw [he, List.take_length]
    rw [ht] at hok hB
    have hres : projT l c = .tup [.sl ((c.map (getI l)).map V.cs), .int .i64 0] := by
      unfold projT
      rw [if_pos hok]
    rw [hres]
    repeat' (first
      | refine WP.t ?_ | refine WP.k ?_ | refine WP.e ?_ | refine Qn ?_ | refine Qr ?_ | refine Qe ?_ | refine Bn ?_ | refine Br ?_ | refine Be ?_ | refine Bx (by decide) ?_
      | (refine WP.sr fun k hk => ?_; simp [h0, h9, h10, h11, hlt]; refine hk _ _ ?_; clear hk k) | (refine WP.r fun k hk => ?_; simp [h0, h9, h10, h11, hlt]; refine hk _ _ ?_; clear hk k)
      | (refine WP.sd _ rfl fun k hk => ?_; simp [h0, h9, h10, h11, hlt]; refine hk _ _ ?_; clear hk k) | (refine WP.d _ rfl fun k hk => ?_; simp [h0, h9, h10, h11, hlt]; refine hk _ _ ?_; clear hk k)
      | (refine WP.cc fun A B hA hB => ?_; simp [h0, h9, h10, h11, hlt, onB_t, onB_f]; first | (refine hA ?_; clear hA hB A B) | (refine hB ?_; clear hA hB A B) | (refine onB_if (fun h => hA ?_) (fun h => hB ?_) <;> clear hA hB A B))
      | refine WP.q ?_ | refine WP.b ?_)
    rcases hB with ⟨h0', h3⟩ | ⟨hi0, rd, hrd, hrd2, h3, hr⟩
    · have : c = [] := List.eq_nil_of_length_eq_zero (by omega)
      subst this
      exact ⟨.inr rfl, .tup [.nsl, .int .i64 0], by simp [h3], .tup _ _ rfl (frz_pair .nil (.same _ (.int _ _)))⟩
    · refine ⟨.inr rfl, .tup [.ls rd 0 i, .int .i64 0], by simp [h3], .tup _ _ rfl (frz_pair ?_ (.same _ (.int _ _)))⟩
      have hlen : i = (List.map V.cs (List.map (getI l) c)).length := by simp [he]
      rw [hlen]
      exact frz_rows hr hrd
end
end Go.Am
