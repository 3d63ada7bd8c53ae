/- Part of the proof: abstract values over the given model of Go (T41, T42, T43). Conditions: none of its own; see the statement in the seat's Rows text. -/
import Derived.Test.YtnpidlhooilddaaDoorAmTp
import Derived.Test.YtnpidlhooilddaaDoorAmTE
set_option linter.unusedSimpArgs false
set_option linter.unusedVariables false
set_option linter.unusedSectionVars false
namespace Go.Am
open Go.Proofs
/-- How many are ahead of x. -/
def posR (x : List V) : Rows0 → Nat
  | [] => 0
  | y :: l => if cmpT y x < 0 then posR x l + 1 else 0
def refIns (R : Rows0) (x : List V) : Rows0 :=
  if posR x R < R.length ∧ cmpT (gD R (posR x R)) x = 0 then R else R.take (posR x R) ++ [x] ++ R.drop (posR x R)
def refS (D : Rows0) : Rows0 := D.foldl refIns []
theorem posR_le (x : List V) : ∀ R : Rows0, posR x R ≤ R.length
  | [] => Nat.le_refl _
  | y :: l => by
    unfold posR
    have := posR_le x l
    split <;> simp <;> omega
theorem posR_step {x : List V} {R : Rows0} {j : Nat} (h : j < R.length) : posR x (R.drop j) = if cmpT R[j] x < 0 then posR x (R.drop (j + 1)) + 1 else 0 := by
  rw [List.drop_eq_getElem_cons h]
  rfl
@[simp] theorem encD_one (X : Rows0) : ((encD X).all fun y => y.length == 1 && y.all AV.one) = true := by simp [encD, Rw, AV.one]
theorem encD_take (X : Rows0) (n : Nat) : (encD X).take n = encD (X.take n) := by simp [encD, List.map_take]
theorem encD_drop (X : Rows0) (n : Nat) : (encD X).drop n = encD (X.drop n) := by simp [encD, List.map_drop]
theorem encD_append (X Y : Rows0) : encD X ++ encD Y = encD (X ++ Y) := by simp [encD]
theorem encD_sing (x : List V) : [[AV.sl (x.map V.cs)]] = encD [x] := rfl
section
variable {K : Nat} {gw : World} {s : St}
attribute [local simp] RS_cons' RS_nil RQ_nil RQ_cons' awanted xop zOf zrow aop ev T0 Slots.put Slots.set Slots.get awr WOk AV.may ofConst abinop aint isConst St.get_push St.get_put St.live AV.fit AV.cells AV.one fieldOf afieldAddr aload ofCells astore splice May eqres env_ti FinP ares aresL ares1 Fns.addP Fns.add
theorem cstk3 (v : V) : v.cs.take 3 = v.cs := rfl
def okR (l : List V) : Bool := decide (l.length < LIM) && l.all fun v => decide (v.s.length < LIM)
set_option maxRecDepth 20000 in
set_option maxHeartbeats 4000000 in
theorem ft23r (hK : 0 < K) (hT : Tens gw) (x y : List V) (hx : okR x = true) (hy : okR y = true) : FT (env K gw) NoW 23 [.sl (x.map V.cs), .sl (y.map V.cs)] s (.int .i64 (cmpT x y)) s := by
  simp only [okR, Bool.and_eq_true, decide_eq_true_eq, List.all_eq_true] at hx hy
  obtain ⟨hx, hxs⟩ := hx
  obtain ⟨hy, hys⟩ := hy
  refine FT.pure (fn := Tryd.f23) (F17_ok hK hT) mixed Tryd.func23 (by kernel_rfl) (by rfl) rfl rfl (by simp) rfl fun μ w => ?_
  repeat' (first
    | refine WP.t ?_ | refine WP.k ?_ | refine WP.e ?_ | refine Qn ?_ | refine Qr ?_ | refine Qe ?_ | refine Bn ?_ | refine Br ?_ | refine Be ?_ | refine Bx (by decide) ?_
    | (refine RS.nl ?_; refine hk _ _ ?_; clear hk k)
    | (refine RS.st fun A B hA hB => ?_; simp [abuiltin, onW_t, onW_f, onV_s]; first | (refine hA _ _ _ ?_ ?_; (focus (first | (simp [abuiltin]; done) | (simp [abuiltin]; omega))); clear hA hB A B) | (refine hB ?_; clear hA hB A B))
    | (refine RQ.nl ?_; refine hk _ _ ?_; clear hk k)
    | (refine RW.nl ?_; refine hk _ _ ?_; clear hk k)
    | (refine RW.st fun A B hA hB => ?_; simp [abuiltin, onW_t, onW_f, onV_s]; first | (refine hA _ _ _ ?_ (by first | exact .inl (by decide) | exact .inr (.inl rfl) | exact .inr (.inr rfl)) (by first | exact .inl (by decide) | exact .inr (.inl (by decide)) | exact .inr (.inr fun s2 => by simp [abuiltin])) ?_; (focus (first | (simp [abuiltin]; done) | (simp [abuiltin]; omega))); clear hA hB A B) | (refine hB ?_; clear hA hB A B))
    | (refine RQ.st fun A B hA hB => ?_; simp [abuiltin, onW_t, onW_f, onV_s]; first | (refine hA _ _ _ ?_ (by first | exact .inl rfl | exact .inr (by decide)) ?_; (focus (first | (simp [abuiltin]; done) | (simp [abuiltin]; omega))); clear hA hB A B) | (refine hB ?_; clear hA hB A B))
    | refine WP.sr fun k hk => ?_ | refine WP.r fun k hk => ?_ | refine WP.sd _ rfl fun k hk => ?_ | refine WP.d _ rfl fun k hk => ?_
    | (refine WP.cc fun A B hA hB => ?_; simp [abuiltin, onB_t, onB_f]; first | (refine hA ?_; clear hA hB A B) | (refine hB ?_; clear hA hB A B) | (refine onB_if (fun h => hA ?_) (fun h => hB ?_) <;> clear hA hB A B))
    | refine WP.q ?_ | refine WP.b ?_)
  refine WP_loop (fun n T s' => ∃ i : Nat, n + i = min x.length y.length ∧ s' = s ∧ T.get 0 = .sl (x.map V.cs) ∧ T.get 1 = .sl (y.map V.cs) ∧ T.get 5 = .int .i64 i ∧ cmpT x y = cmpT (x.drop i) (y.drop i)) (min x.length y.length) ⟨0, by simp, rfl, by simp, by simp, by simp, by simp⟩ ?_
  rintro n T s' ⟨i, hn, rfl, h0, h1, h5, hc⟩
  by_cases hi : i < min x.length y.length
  · have hx' : i < x.length := by omega
    have hy' : i < y.length := by omega
    have hw : IntKind.i64.wrap ((i : Int) + 1) = (i : Int) + 1 := wrap64 (by omega) (by simp only [LIM] at hx; omega)
    have ha : x[i]? = some x[i] := List.getElem?_eq_getElem hx'
    have hb : y[i]? = some y[i] := List.getElem?_eq_getElem hy'
    have hxl := hxs x[i] (List.getElem_mem hx')
    have hyl := hys y[i] (List.getElem_mem hy')
    rw [cmpT_drop hx' hy'] at hc
    by_cases hz : cmpV x[i] y[i] = 0
    · rw [if_pos hz] at hc
      repeat' (first
        | refine WP.t ?_ | refine WP.k ?_ | refine WP.e ?_ | refine Qn ?_ | refine Qr ?_ | refine Qe ?_ | refine Bn ?_ | refine Br ?_ | refine Be ?_ | refine Bx (by decide) ?_
        | (refine RS.nl ?_; refine hk _ _ ?_; clear hk k)
        | (refine RS.st fun A B hA hB => ?_; simp [F17, F16, F15, F14, pSameV, pComp, abuiltin, alen, alenOk, ti22, ti34, elemOfT, aindex, h0, h1, h5, hx', hy', ha, hb, hw, hxl, hyl, hz, bare_cs_len, cstk3, aunop, onW_t, onW_f, onV_s]; first | (refine hA _ _ _ ?_ ?_; (focus (first | (simp [F17, F16, F15, F14, pSameV, pComp, abuiltin, alen, alenOk, ti22, ti34, elemOfT, aindex, h0, h1, h5, hx', hy', ha, hb, hw, hxl, hyl, hz, bare_cs_len, cstk3, aunop]; done) | (simp [F17, F16, F15, F14, pSameV, pComp, abuiltin, alen, alenOk, ti22, ti34, elemOfT, aindex, h0, h1, h5, hx', hy', ha, hb, hw, hxl, hyl, hz, bare_cs_len, cstk3, aunop]; omega))); clear hA hB A B) | (refine hB ?_; clear hA hB A B))
        | (refine RQ.nl ?_; refine hk _ _ ?_; clear hk k)
        | (refine RW.nl ?_; refine hk _ _ ?_; clear hk k)
        | (refine RW.st fun A B hA hB => ?_; simp [F17, F16, F15, F14, pSameV, pComp, abuiltin, alen, alenOk, ti22, ti34, elemOfT, aindex, h0, h1, h5, hx', hy', ha, hb, hw, hxl, hyl, hz, bare_cs_len, cstk3, aunop, onW_t, onW_f, onV_s]; first | (refine hA _ _ _ ?_ (by first | exact .inl (by decide) | exact .inr (.inl rfl) | exact .inr (.inr rfl)) (by first | exact .inl (by decide) | exact .inr (.inl (by decide)) | exact .inr (.inr fun s2 => by simp [F17, F16, F15, F14, pSameV, pComp, abuiltin, alen, alenOk, ti22, ti34, elemOfT, aindex, h0, h1, h5, hx', hy', ha, hb, hw, hxl, hyl, hz, bare_cs_len, cstk3, aunop])) ?_; (focus (first | (simp [F17, F16, F15, F14, pSameV, pComp, abuiltin, alen, alenOk, ti22, ti34, elemOfT, aindex, h0, h1, h5, hx', hy', ha, hb, hw, hxl, hyl, hz, bare_cs_len, cstk3, aunop]; done) | (simp [F17, F16, F15, F14, pSameV, pComp, abuiltin, alen, alenOk, ti22, ti34, elemOfT, aindex, h0, h1, h5, hx', hy', ha, hb, hw, hxl, hyl, hz, bare_cs_len, cstk3, aunop]; omega))); clear hA hB A B) | (refine hB ?_; clear hA hB A B))
        | (refine RQ.st fun A B hA hB => ?_; simp [F17, F16, F15, F14, pSameV, pComp, abuiltin, alen, alenOk, ti22, ti34, elemOfT, aindex, h0, h1, h5, hx', hy', ha, hb, hw, hxl, hyl, hz, bare_cs_len, cstk3, aunop, onW_t, onW_f, onV_s]; first | (refine hA _ _ _ ?_ (by first | exact .inl rfl | exact .inr (by decide)) ?_; (focus (first | (simp [F17, F16, F15, F14, pSameV, pComp, abuiltin, alen, alenOk, ti22, ti34, elemOfT, aindex, h0, h1, h5, hx', hy', ha, hb, hw, hxl, hyl, hz, bare_cs_len, cstk3, aunop]; done) | (simp [F17, F16, F15, F14, pSameV, pComp, abuiltin, alen, alenOk, ti22, ti34, elemOfT, aindex, h0, h1, h5, hx', hy', ha, hb, hw, hxl, hyl, hz, bare_cs_len, cstk3, aunop]; omega))); clear hA hB A B) | (refine hB ?_; clear hA hB A B))
        | refine WP.sr fun k hk => ?_ | refine WP.r fun k hk => ?_ | refine WP.sd _ rfl fun k hk => ?_ | refine WP.d _ rfl fun k hk => ?_
        | (refine WP.cc fun A B hA hB => ?_; simp [F17, F16, F15, F14, pSameV, pComp, abuiltin, alen, alenOk, ti22, ti34, elemOfT, aindex, h0, h1, h5, hx', hy', ha, hb, hw, hxl, hyl, hz, bare_cs_len, cstk3, aunop, onB_t, onB_f]; first | (refine hA ?_; clear hA hB A B) | (refine hB ?_; clear hA hB A B) | (refine onB_if (fun h => hA ?_) (fun h => hB ?_) <;> clear hA hB A B))
        | refine WP.q ?_ | refine WP.b ?_)
      exact ⟨n - 1, by omega, i + 1, by omega, rfl, by simp [h0], by simp [h1], by simp, hc⟩
    · rw [if_neg hz] at hc
      have hz2 : (cmpV x[i] y[i] == 0) = false := by rw [beq_eq_false_iff_ne]; exact hz
      rw [hc]
      repeat' (first
        | refine WP.t ?_ | refine WP.k ?_ | refine WP.e ?_ | refine Qn ?_ | refine Qr ?_ | refine Qe ?_ | refine Bn ?_ | refine Br ?_ | refine Be ?_ | refine Bx (by decide) ?_
        | (refine RS.nl ?_; refine hk _ _ ?_; clear hk k)
        | (refine RS.st fun A B hA hB => ?_; simp [F17, F16, F15, F14, pSameV, pComp, abuiltin, alen, alenOk, ti22, ti34, elemOfT, aindex, h0, h1, h5, hx', hy', ha, hb, hw, hxl, hyl, hz2, bare_cs_len, cstk3, aunop, onW_t, onW_f, onV_s]; first | (refine hA _ _ _ ?_ ?_; (focus (first | (simp [F17, F16, F15, F14, pSameV, pComp, abuiltin, alen, alenOk, ti22, ti34, elemOfT, aindex, h0, h1, h5, hx', hy', ha, hb, hw, hxl, hyl, hz2, bare_cs_len, cstk3, aunop]; done) | (simp [F17, F16, F15, F14, pSameV, pComp, abuiltin, alen, alenOk, ti22, ti34, elemOfT, aindex, h0, h1, h5, hx', hy', ha, hb, hw, hxl, hyl, hz2, bare_cs_len, cstk3, aunop]; omega))); clear hA hB A B) | (refine hB ?_; clear hA hB A B))
        | (refine RQ.nl ?_; refine hk _ _ ?_; clear hk k)
        | (refine RW.nl ?_; refine hk _ _ ?_; clear hk k)
        | (refine RW.st fun A B hA hB => ?_; simp [F17, F16, F15, F14, pSameV, pComp, abuiltin, alen, alenOk, ti22, ti34, elemOfT, aindex, h0, h1, h5, hx', hy', ha, hb, hw, hxl, hyl, hz2, bare_cs_len, cstk3, aunop, onW_t, onW_f, onV_s]; first | (refine hA _ _ _ ?_ (by first | exact .inl (by decide) | exact .inr (.inl rfl) | exact .inr (.inr rfl)) (by first | exact .inl (by decide) | exact .inr (.inl (by decide)) | exact .inr (.inr fun s2 => by simp [F17, F16, F15, F14, pSameV, pComp, abuiltin, alen, alenOk, ti22, ti34, elemOfT, aindex, h0, h1, h5, hx', hy', ha, hb, hw, hxl, hyl, hz2, bare_cs_len, cstk3, aunop])) ?_; (focus (first | (simp [F17, F16, F15, F14, pSameV, pComp, abuiltin, alen, alenOk, ti22, ti34, elemOfT, aindex, h0, h1, h5, hx', hy', ha, hb, hw, hxl, hyl, hz2, bare_cs_len, cstk3, aunop]; done) | (simp [F17, F16, F15, F14, pSameV, pComp, abuiltin, alen, alenOk, ti22, ti34, elemOfT, aindex, h0, h1, h5, hx', hy', ha, hb, hw, hxl, hyl, hz2, bare_cs_len, cstk3, aunop]; omega))); clear hA hB A B) | (refine hB ?_; clear hA hB A B))
        | (refine RQ.st fun A B hA hB => ?_; simp [F17, F16, F15, F14, pSameV, pComp, abuiltin, alen, alenOk, ti22, ti34, elemOfT, aindex, h0, h1, h5, hx', hy', ha, hb, hw, hxl, hyl, hz2, bare_cs_len, cstk3, aunop, onW_t, onW_f, onV_s]; first | (refine hA _ _ _ ?_ (by first | exact .inl rfl | exact .inr (by decide)) ?_; (focus (first | (simp [F17, F16, F15, F14, pSameV, pComp, abuiltin, alen, alenOk, ti22, ti34, elemOfT, aindex, h0, h1, h5, hx', hy', ha, hb, hw, hxl, hyl, hz2, bare_cs_len, cstk3, aunop]; done) | (simp [F17, F16, F15, F14, pSameV, pComp, abuiltin, alen, alenOk, ti22, ti34, elemOfT, aindex, h0, h1, h5, hx', hy', ha, hb, hw, hxl, hyl, hz2, bare_cs_len, cstk3, aunop]; omega))); clear hA hB A B) | (refine hB ?_; clear hA hB A B))
        | refine WP.sr fun k hk => ?_ | refine WP.r fun k hk => ?_ | refine WP.sd _ rfl fun k hk => ?_ | refine WP.d _ rfl fun k hk => ?_
        | (refine WP.cc fun A B hA hB => ?_; simp [F17, F16, F15, F14, pSameV, pComp, abuiltin, alen, alenOk, ti22, ti34, elemOfT, aindex, h0, h1, h5, hx', hy', ha, hb, hw, hxl, hyl, hz2, bare_cs_len, cstk3, aunop, onB_t, onB_f]; first | (refine hA ?_; clear hA hB A B) | (refine hB ?_; clear hA hB A B) | (refine onB_if (fun h => hA ?_) (fun h => hB ?_) <;> clear hA hB A B))
        | refine WP.q ?_ | refine WP.b ?_)
      simp
  · have he : i = min x.length y.length := by omega
    rw [cmpT_end he] at hc
    rw [hc]
    by_cases hx' : i < x.length
    · have hy' : ¬ i < y.length := by omega
      repeat' (first
        | refine WP.t ?_ | refine WP.k ?_ | refine WP.e ?_ | refine Qn ?_ | refine Qr ?_ | refine Qe ?_ | refine Bn ?_ | refine Br ?_ | refine Be ?_ | refine Bx (by decide) ?_
        | (refine RS.nl ?_; refine hk _ _ ?_; clear hk k)
        | (refine RS.st fun A B hA hB => ?_; simp [abuiltin, alenOk, alen, ti22, h0, h1, h5, hx', hy', onW_t, onW_f, onV_s]; first | (refine hA _ _ _ ?_ ?_; (focus (first | (simp [abuiltin, alenOk, alen, ti22, h0, h1, h5, hx', hy']; done) | (simp [abuiltin, alenOk, alen, ti22, h0, h1, h5, hx', hy']; omega))); clear hA hB A B) | (refine hB ?_; clear hA hB A B))
        | (refine RQ.nl ?_; refine hk _ _ ?_; clear hk k)
        | (refine RW.nl ?_; refine hk _ _ ?_; clear hk k)
        | (refine RW.st fun A B hA hB => ?_; simp [abuiltin, alenOk, alen, ti22, h0, h1, h5, hx', hy', onW_t, onW_f, onV_s]; first | (refine hA _ _ _ ?_ (by first | exact .inl (by decide) | exact .inr (.inl rfl) | exact .inr (.inr rfl)) (by first | exact .inl (by decide) | exact .inr (.inl (by decide)) | exact .inr (.inr fun s2 => by simp [abuiltin, alenOk, alen, ti22, h0, h1, h5, hx', hy'])) ?_; (focus (first | (simp [abuiltin, alenOk, alen, ti22, h0, h1, h5, hx', hy']; done) | (simp [abuiltin, alenOk, alen, ti22, h0, h1, h5, hx', hy']; omega))); clear hA hB A B) | (refine hB ?_; clear hA hB A B))
        | (refine RQ.st fun A B hA hB => ?_; simp [abuiltin, alenOk, alen, ti22, h0, h1, h5, hx', hy', onW_t, onW_f, onV_s]; first | (refine hA _ _ _ ?_ (by first | exact .inl rfl | exact .inr (by decide)) ?_; (focus (first | (simp [abuiltin, alenOk, alen, ti22, h0, h1, h5, hx', hy']; done) | (simp [abuiltin, alenOk, alen, ti22, h0, h1, h5, hx', hy']; omega))); clear hA hB A B) | (refine hB ?_; clear hA hB A B))
        | refine WP.sr fun k hk => ?_ | refine WP.r fun k hk => ?_ | refine WP.sd _ rfl fun k hk => ?_ | refine WP.d _ rfl fun k hk => ?_
        | (refine WP.cc fun A B hA hB => ?_; simp [abuiltin, alenOk, alen, ti22, h0, h1, h5, hx', hy', onB_t, onB_f]; first | (refine hA ?_; clear hA hB A B) | (refine hB ?_; clear hA hB A B) | (refine onB_if (fun h => hA ?_) (fun h => hB ?_) <;> clear hA hB A B))
        | refine WP.q ?_ | refine WP.b ?_)
      all_goals (simp at *; unfold cmpI; first | (rw [if_pos (by omega)]; done) | (rw [if_neg (by omega), if_pos (by omega)]; done) | rw [if_neg (by omega), if_neg (by omega)])
    · skip
      repeat' (first
        | refine WP.t ?_ | refine WP.k ?_ | refine WP.e ?_ | refine Qn ?_ | refine Qr ?_ | refine Qe ?_ | refine Bn ?_ | refine Br ?_ | refine Be ?_ | refine Bx (by decide) ?_
        | (refine RS.nl ?_; refine hk _ _ ?_; clear hk k)
        | (refine RS.st fun A B hA hB => ?_; simp [abuiltin, alenOk, alen, ti22, h0, h1, h5, hx', onW_t, onW_f, onV_s]; first | (refine hA _ _ _ ?_ ?_; (focus (first | (simp [abuiltin, alenOk, alen, ti22, h0, h1, h5, hx']; done) | (simp [abuiltin, alenOk, alen, ti22, h0, h1, h5, hx']; omega))); clear hA hB A B) | (refine hB ?_; clear hA hB A B))
        | (refine RQ.nl ?_; refine hk _ _ ?_; clear hk k)
        | (refine RW.nl ?_; refine hk _ _ ?_; clear hk k)
        | (refine RW.st fun A B hA hB => ?_; simp [abuiltin, alenOk, alen, ti22, h0, h1, h5, hx', onW_t, onW_f, onV_s]; first | (refine hA _ _ _ ?_ (by first | exact .inl (by decide) | exact .inr (.inl rfl) | exact .inr (.inr rfl)) (by first | exact .inl (by decide) | exact .inr (.inl (by decide)) | exact .inr (.inr fun s2 => by simp [abuiltin, alenOk, alen, ti22, h0, h1, h5, hx'])) ?_; (focus (first | (simp [abuiltin, alenOk, alen, ti22, h0, h1, h5, hx']; done) | (simp [abuiltin, alenOk, alen, ti22, h0, h1, h5, hx']; omega))); clear hA hB A B) | (refine hB ?_; clear hA hB A B))
        | (refine RQ.st fun A B hA hB => ?_; simp [abuiltin, alenOk, alen, ti22, h0, h1, h5, hx', onW_t, onW_f, onV_s]; first | (refine hA _ _ _ ?_ (by first | exact .inl rfl | exact .inr (by decide)) ?_; (focus (first | (simp [abuiltin, alenOk, alen, ti22, h0, h1, h5, hx']; done) | (simp [abuiltin, alenOk, alen, ti22, h0, h1, h5, hx']; omega))); clear hA hB A B) | (refine hB ?_; clear hA hB A B))
        | refine WP.sr fun k hk => ?_ | refine WP.r fun k hk => ?_ | refine WP.sd _ rfl fun k hk => ?_ | refine WP.d _ rfl fun k hk => ?_
        | (refine WP.cc fun A B hA hB => ?_; simp [abuiltin, alenOk, alen, ti22, h0, h1, h5, hx', onB_t, onB_f]; first | (refine hA ?_; clear hA hB A B) | (refine hB ?_; clear hA hB A B) | (refine onB_if (fun h => hA ?_) (fun h => hB ?_) <;> clear hA hB A B))
        | refine WP.q ?_ | refine WP.b ?_)
      all_goals (simp at *; unfold cmpI; first | (rw [if_pos (by omega)]; done) | (rw [if_neg (by omega), if_pos (by omega)]; done) | rw [if_neg (by omega), if_neg (by omega)])
def pCmpQ : List AV → Option AV
  | [.sl a, .sl b] => match decL a, decL b with
    | some x, some y => if okR x = true ∧ okR y = true then some (.int .i64 (cmpT x y)) else none
    | _, _ => none
  | _ => none
noncomputable def V0 : Fns := F17.addP 23 pCmpQ
theorem V0_ok (hK : 0 < K) (hT : Tens gw) : FOk (env K gw) V0 := by
  refine (F17_ok hK hT).addP fun xs s r h => ?_
  unfold pCmpQ at h
  split at h
  · split at h
    · rename_i h1 h2
      split at h
      · rename_i hl
        cases h
        rw [decL_eq h1, decL_eq h2]
        exact ft23r hK hT _ _ hl.1 hl.2
      · cases h
    · cases h
  · cases h
set_option maxRecDepth 20000 in
set_option maxHeartbeats 16000000 in
theorem ft19 (hK : 0 < K) (hT : Tens gw) (D : Rows0) (hl : D.length < 268435456) (hok : ∀ t ∈ D, okR t = true) :
    FT (env K gw) NoW 19 [.sl (encD D)] s (.sl (encD (refS D))) s := by
  refine FT.data (fn := Tryd.f19) (V0_ok hK hT) mixed Tryd.func19 (by kernel_rfl) (by rfl) rfl rfl (by simp) (by kernel_rfl) fun μ w => ?_
  have hcmp : ∀ (x y : List V) (s : St), okR x = true → okR y = true → V0 23 [.sl (x.map V.cs), .sl (y.map V.cs)] s = some (.int .i64 (cmpT x y), s, []) := fun x y s hx hy => by
    simp [V0, Fns.addP, pCmpQ, hx, hy]
  repeat' (first
    | refine WP.t ?_ | refine WP.k ?_ | refine WP.e ?_ | refine Qn ?_ | refine Qr ?_ | refine Qe ?_ | refine Bn ?_ | refine Br ?_ | refine Be ?_ | refine Bx (by decide) ?_
    | (refine RS.nl ?_; refine hk _ _ ?_; clear hk k)
    | (refine RS.st fun A B hA hB => ?_; simp [abuiltin, alenOk, alen, ti36, onW_t, onW_f, onV_s]; first | (refine hA _ _ _ ?_ ?_; (focus (first | (simp [abuiltin, alenOk, alen, ti36]; done) | (simp [abuiltin, alenOk, alen, ti36]; omega))); clear hA hB A B) | (refine hB ?_; clear hA hB A B))
    | (refine RQ.nl ?_; refine hk _ _ ?_; clear hk k)
    | (refine RW.nl ?_; refine hk _ _ ?_; clear hk k)
    | (refine RW.st fun A B hA hB => ?_; simp [abuiltin, alenOk, alen, ti36, onW_t, onW_f, onV_s]; first | (refine hA _ _ _ ?_ (by first | exact .inl (by decide) | exact .inr (.inl rfl) | exact .inr (.inr rfl)) (by first | exact .inl (by decide) | exact .inr (.inl (by decide)) | exact .inr (.inr fun s2 => by simp [abuiltin, alenOk, alen, ti36])) ?_; (focus (first | (simp [abuiltin, alenOk, alen, ti36]; done) | (simp [abuiltin, alenOk, alen, ti36]; omega))); clear hA hB A B) | (refine hB ?_; clear hA hB A B))
    | (refine RQ.st fun A B hA hB => ?_; simp [abuiltin, alenOk, alen, ti36, onW_t, onW_f, onV_s]; first | (refine hA _ _ _ ?_ (by first | exact .inl rfl | exact .inr (by decide)) ?_; (focus (first | (simp [abuiltin, alenOk, alen, ti36]; done) | (simp [abuiltin, alenOk, alen, ti36]; omega))); clear hA hB A B) | (refine hB ?_; clear hA hB A B))
    | refine WP.sr fun k hk => ?_ | refine WP.r fun k hk => ?_ | refine WP.sd _ rfl fun k hk => ?_ | refine WP.d _ rfl fun k hk => ?_
    | (refine WP.cc fun A B hA hB => ?_; simp [abuiltin, alenOk, alen, ti36, onB_t, onB_f]; first | (refine hA ?_; clear hA hB A B) | (refine hB ?_; clear hA hB A B) | (refine onB_if (fun h => hA ?_) (fun h => hB ?_) <;> clear hA hB A B))
    | refine WP.q ?_ | refine WP.b ?_)
  refine WP_loop (fun n T s' => ∃ (i : Nat) (R : Rows0), n = D.length - i ∧ i ≤ D.length ∧ R.length ≤ i ∧ (∀ t ∈ R, okR t = true) ∧ s.nx ≤ s'.nx ∧ (D.drop i).foldl refIns R = refS D ∧ T.get 0 = .sl (encD D) ∧ T.get 4 = .int .i64 i ∧
      ((T.get 3 = .nsl ∧ R = []) ∨ ∃ rd, s.nx ≤ rd ∧ rd < s'.nx ∧ s'.get rd = some (rowO R) ∧ T.get 3 = .ls rd 0 R.length))
    D.length ⟨0, [], rfl, by omega, by simp, by simp, Nat.le_refl _, rfl, by simp, by simp, .inl ⟨by simp, rfl⟩⟩ ?_
  rintro n T s' ⟨i, R, hn, hi, hRi, hokR, hnx, hfold, g0, g4, hB⟩
  by_cases hlt : i < D.length
  · have hlti : (i : Int) < (D.length : Int) := by omega
    have hx := encD_get hlt
    have ox := hok _ (List.getElem_mem hlt)
    have hfold : (D.drop (i + 1)).foldl refIns (refIns R D[i]) = refS D := by
      rw [← hfold, List.drop_eq_getElem_cons hlt]
      rfl
    generalize D[i] = x at *
    have rwx : Rw x = [.sl (x.map V.cs)] := rfl
    have w1 : IntKind.i64.wrap ((i : Int) + 1) = (i : Int) + 1 := wrap64 (by omega) (by omega)
    rcases hB with ⟨g3, rfl⟩ | ⟨rd, hrd, hrd2, hget, g3⟩
    · skip
      repeat' (first
        | refine WP.t ?_ | refine WP.k ?_ | refine WP.e ?_ | refine Qn ?_ | refine Qr ?_ | refine Qe ?_ | refine Bn ?_ | refine Br ?_ | refine Be ?_ | refine Bx (by decide) ?_
        | (refine RS.nl ?_; refine hk _ _ ?_; clear hk k)
        | (refine RS.st fun A B hA hB => ?_; simp [g0, g3, g4, abuiltin, alenOk, alen, hlti, ti36, onW_t, onW_f, onV_s]; first | (refine hA _ _ _ ?_ ?_; (focus (first | (simp [g0, g3, g4, abuiltin, alenOk, alen, hlti, ti36]; done) | (simp [g0, g3, g4, abuiltin, alenOk, alen, hlti, ti36]; omega))); clear hA hB A B) | (refine hB ?_; clear hA hB A B))
        | (refine RQ.nl ?_; refine hk _ _ ?_; clear hk k)
        | (refine RW.nl ?_; refine hk _ _ ?_; clear hk k)
        | (refine RW.st fun A B hA hB => ?_; simp [g0, g3, g4, abuiltin, alenOk, alen, hlti, ti36, onW_t, onW_f, onV_s]; first | (refine hA _ _ _ ?_ (by first | exact .inl (by decide) | exact .inr (.inl rfl) | exact .inr (.inr rfl)) (by first | exact .inl (by decide) | exact .inr (.inl (by decide)) | exact .inr (.inr fun s2 => by simp [g0, g3, g4, abuiltin, alenOk, alen, hlti, ti36])) ?_; (focus (first | (simp [g0, g3, g4, abuiltin, alenOk, alen, hlti, ti36]; done) | (simp [g0, g3, g4, abuiltin, alenOk, alen, hlti, ti36]; omega))); clear hA hB A B) | (refine hB ?_; clear hA hB A B))
        | (refine RQ.st fun A B hA hB => ?_; simp [g0, g3, g4, abuiltin, alenOk, alen, hlti, ti36, onW_t, onW_f, onV_s]; first | (refine hA _ _ _ ?_ (by first | exact .inl rfl | exact .inr (by decide)) ?_; (focus (first | (simp [g0, g3, g4, abuiltin, alenOk, alen, hlti, ti36]; done) | (simp [g0, g3, g4, abuiltin, alenOk, alen, hlti, ti36]; omega))); clear hA hB A B) | (refine hB ?_; clear hA hB A B))
        | refine WP.sr fun k hk => ?_ | refine WP.r fun k hk => ?_ | refine WP.sd _ rfl fun k hk => ?_ | refine WP.d _ rfl fun k hk => ?_
        | (refine WP.cc fun A B hA hB => ?_; simp [g0, g3, g4, abuiltin, alenOk, alen, hlti, ti36, onB_t, onB_f]; first | (refine hA ?_; clear hA hB A B) | (refine hB ?_; clear hA hB A B) | (refine onB_if (fun h => hA ?_) (fun h => hB ?_) <;> clear hA hB A B))
        | refine WP.q ?_ | refine WP.b ?_)
      refine WP_loop (fun n2 T2 s2 => s2 = s' ∧ T2.get 0 = .sl (encD D) ∧ T2.get 3 = .nsl ∧ T2.get 4 = .int .i64 i ∧ T2.get 5 = .int .i64 0) 0 ⟨rfl, by simp [g0], by simp [g3], by simp [g4], by simp⟩ ?_
      rintro n2 T2 s2 ⟨rfl, k0, k3, k4, k5⟩
      have hby : ∀ m : Nat, m ≤ 2 → m * 24 ≤ 140737488355328 := fun m hm => by omega
      repeat' (first
        | refine WP.t ?_ | refine WP.k ?_ | refine WP.e ?_ | refine Qn ?_ | refine Qr ?_ | refine Qe ?_ | refine Bn ?_ | refine Br ?_ | refine Be ?_ | refine Bx (by decide) ?_
        | (refine RS.nl ?_; refine hk _ _ ?_; clear hk k)
        | (refine RS.st fun A B hA hB => ?_; simp [k0, k3, k4, k5, hx, rwx, abuiltin, alenOk, alen, hlti, ti36, ti22, elemOfT, elemId, aindex, asliceOk, aslice, abound, abuildSlice, afill, chunks, ard, aappend, isSS, AV.isStr, AV.one, hnx, onW_t, onW_f, onV_s]; first | (refine hA _ _ _ ?_ ?_; (focus (first | (simp [k0, k3, k4, k5, hx, rwx, abuiltin, alenOk, alen, hlti, ti36, ti22, elemOfT, elemId, aindex, asliceOk, aslice, abound, abuildSlice, afill, chunks, ard, aappend, isSS, AV.isStr, AV.one, hnx]; done) | (simp [k0, k3, k4, k5, hx, rwx, abuiltin, alenOk, alen, hlti, ti36, ti22, elemOfT, elemId, aindex, asliceOk, aslice, abound, abuildSlice, afill, chunks, ard, aappend, isSS, AV.isStr, AV.one, hnx]; omega))); clear hA hB A B) | (refine hB ?_; clear hA hB A B))
        | (refine RQ.nl ?_; refine hk _ _ ?_; clear hk k)
        | (refine RW.nl ?_; refine hk _ _ ?_; clear hk k)
        | (refine RW.st fun A B hA hB => ?_; simp [k0, k3, k4, k5, hx, rwx, abuiltin, alenOk, alen, hlti, ti36, ti22, elemOfT, elemId, aindex, asliceOk, aslice, abound, abuildSlice, afill, chunks, ard, aappend, isSS, AV.isStr, AV.one, hnx, onW_t, onW_f, onV_s]; first | (refine hA _ _ _ ?_ (by first | exact .inl (by decide) | exact .inr (.inl rfl) | exact .inr (.inr rfl)) (by first | exact .inl (by decide) | exact .inr (.inl (by decide)) | exact .inr (.inr fun s2 => by simp [k0, k3, k4, k5, hx, rwx, abuiltin, alenOk, alen, hlti, ti36, ti22, elemOfT, elemId, aindex, asliceOk, aslice, abound, abuildSlice, afill, chunks, ard, aappend, isSS, AV.isStr, AV.one, hnx])) ?_; (focus (first | (simp [k0, k3, k4, k5, hx, rwx, abuiltin, alenOk, alen, hlti, ti36, ti22, elemOfT, elemId, aindex, asliceOk, aslice, abound, abuildSlice, afill, chunks, ard, aappend, isSS, AV.isStr, AV.one, hnx]; done) | (simp [k0, k3, k4, k5, hx, rwx, abuiltin, alenOk, alen, hlti, ti36, ti22, elemOfT, elemId, aindex, asliceOk, aslice, abound, abuildSlice, afill, chunks, ard, aappend, isSS, AV.isStr, AV.one, hnx]; omega))); clear hA hB A B) | (refine hB ?_; clear hA hB A B))
        | (refine RQ.st fun A B hA hB => ?_; simp [k0, k3, k4, k5, hx, rwx, abuiltin, alenOk, alen, hlti, ti36, ti22, elemOfT, elemId, aindex, asliceOk, aslice, abound, abuildSlice, afill, chunks, ard, aappend, isSS, AV.isStr, AV.one, hnx, onW_t, onW_f, onV_s]; first | (refine hA _ _ _ ?_ (by first | exact .inl rfl | exact .inr (by decide)) ?_; (focus (first | (simp [k0, k3, k4, k5, hx, rwx, abuiltin, alenOk, alen, hlti, ti36, ti22, elemOfT, elemId, aindex, asliceOk, aslice, abound, abuildSlice, afill, chunks, ard, aappend, isSS, AV.isStr, AV.one, hnx]; done) | (simp [k0, k3, k4, k5, hx, rwx, abuiltin, alenOk, alen, hlti, ti36, ti22, elemOfT, elemId, aindex, asliceOk, aslice, abound, abuildSlice, afill, chunks, ard, aappend, isSS, AV.isStr, AV.one, hnx]; omega))); clear hA hB A B) | (refine hB ?_; clear hA hB A B))
        | refine WP.sr fun k hk => ?_ | refine WP.r fun k hk => ?_ | refine WP.sd _ rfl fun k hk => ?_ | refine WP.d _ rfl fun k hk => ?_
        | (refine WP.cc fun A B hA hB => ?_; simp [k0, k3, k4, k5, hx, rwx, abuiltin, alenOk, alen, hlti, ti36, ti22, elemOfT, elemId, aindex, asliceOk, aslice, abound, abuildSlice, afill, chunks, ard, aappend, isSS, AV.isStr, AV.one, hnx, onB_t, onB_f]; first | (refine hA ?_; clear hA hB A B) | (refine hB ?_; clear hA hB A B) | (refine onB_if (fun h => hA ?_) (fun h => hB ?_) <;> clear hA hB A B))
        | refine WP.q ?_ | refine WP.b ?_)
      refine ⟨D.length - (i + 1), by omega, i + 1, [x], rfl, by omega, by simp, by simpa using ox, by simp; omega, hfold, by simp [k0], by simp [w1], .inr ⟨s2.nx + 1 + 1 + 1 + 1, by omega, by simp, by simp [encD, Rw], by simp⟩⟩
    · skip
      repeat' (first
        | refine WP.t ?_ | refine WP.k ?_ | refine WP.e ?_ | refine Qn ?_ | refine Qr ?_ | refine Qe ?_ | refine Bn ?_ | refine Br ?_ | refine Be ?_ | refine Bx (by decide) ?_
        | (refine RS.nl ?_; refine hk _ _ ?_; clear hk k)
        | (refine RS.st fun A B hA hB => ?_; simp [g0, g3, g4, abuiltin, alenOk, alen, hlti, ti36, hget, onW_t, onW_f, onV_s]; first | (refine hA _ _ _ ?_ ?_; (focus (first | (simp [g0, g3, g4, abuiltin, alenOk, alen, hlti, ti36, hget]; done) | (simp [g0, g3, g4, abuiltin, alenOk, alen, hlti, ti36, hget]; omega))); clear hA hB A B) | (refine hB ?_; clear hA hB A B))
        | (refine RQ.nl ?_; refine hk _ _ ?_; clear hk k)
        | (refine RW.nl ?_; refine hk _ _ ?_; clear hk k)
        | (refine RW.st fun A B hA hB => ?_; simp [g0, g3, g4, abuiltin, alenOk, alen, hlti, ti36, hget, onW_t, onW_f, onV_s]; first | (refine hA _ _ _ ?_ (by first | exact .inl (by decide) | exact .inr (.inl rfl) | exact .inr (.inr rfl)) (by first | exact .inl (by decide) | exact .inr (.inl (by decide)) | exact .inr (.inr fun s2 => by simp [g0, g3, g4, abuiltin, alenOk, alen, hlti, ti36, hget])) ?_; (focus (first | (simp [g0, g3, g4, abuiltin, alenOk, alen, hlti, ti36, hget]; done) | (simp [g0, g3, g4, abuiltin, alenOk, alen, hlti, ti36, hget]; omega))); clear hA hB A B) | (refine hB ?_; clear hA hB A B))
        | (refine RQ.st fun A B hA hB => ?_; simp [g0, g3, g4, abuiltin, alenOk, alen, hlti, ti36, hget, onW_t, onW_f, onV_s]; first | (refine hA _ _ _ ?_ (by first | exact .inl rfl | exact .inr (by decide)) ?_; (focus (first | (simp [g0, g3, g4, abuiltin, alenOk, alen, hlti, ti36, hget]; done) | (simp [g0, g3, g4, abuiltin, alenOk, alen, hlti, ti36, hget]; omega))); clear hA hB A B) | (refine hB ?_; clear hA hB A B))
        | refine WP.sr fun k hk => ?_ | refine WP.r fun k hk => ?_ | refine WP.sd _ rfl fun k hk => ?_ | refine WP.d _ rfl fun k hk => ?_
        | (refine WP.cc fun A B hA hB => ?_; simp [g0, g3, g4, abuiltin, alenOk, alen, hlti, ti36, hget, onB_t, onB_f]; first | (refine hA ?_; clear hA hB A B) | (refine hB ?_; clear hA hB A B) | (refine onB_if (fun h => hA ?_) (fun h => hB ?_) <;> clear hA hB A B))
        | refine WP.q ?_ | refine WP.b ?_)
      have hstep : refIns R x = if posR x R < R.length ∧ cmpT (gD R (posR x R)) x = 0 then R else R.take (posR x R) ++ [x] ++ R.drop (posR x R) := rfl
      refine WP_loop (fun n2 T2 s2 => s2 = s' ∧ ∃ j : Nat, n2 = R.length - j ∧ j ≤ R.length ∧ j + posR x (R.drop j) = posR x R ∧ T2.get 0 = .sl (encD D) ∧ T2.get 3 = .ls rd 0 R.length ∧ T2.get 4 = .int .i64 i ∧ T2.get 5 = .int .i64 j) R.length ⟨rfl, 0, rfl, Nat.zero_le _, by simp, by simp [g0], by simp [g3], by simp [g4], by simp⟩ ?_
      rintro n2 T2 s2 ⟨rfl, j, hn2, hjR, hpos, k0, k3, k4, k5⟩
      have w2 : IntKind.i64.wrap ((j : Int) + 1) = (j : Int) + 1 := wrap64 (by omega) (by omega)
      have ne0 : ¬ rd = s2.nx := by omega
      have ne1 : ¬ rd = s2.nx + 1 := by omega
      have ne2 : ¬ rd = s2.nx + 1 + 1 := by omega
      have ne3 : ¬ rd = s2.nx + 1 + 1 + 1 := by omega
      have ne4 : ¬ rd = s2.nx + 1 + 1 + 1 + 1 := by omega
      have jl : (j : Int) ≤ (R.length : Int) := by omega
      have tdr : (R.drop j).take (R.length - j) = R.drop j := List.take_of_length_le (by simp)
      have jmin : min j R.length = j := by omega
      have b1 : j * 24 ≤ 140737488355328 := by omega
      have b2 : (j + 1) * 24 ≤ 140737488355328 := by omega
      have b3 : (j + 1 + (R.length - j)) * 24 ≤ 140737488355328 := by omega
      by_cases hj : j < R.length
      · have hji : (j : Int) < (R.length : Int) := by omega
        have hy := encD_get hj
        have oy := hokR _ (List.getElem_mem hj)
        have hgd : gD R j = R[j] := gD_of hj
        rw [posR_step hj] at hpos
        generalize R[j] = y at *
        have rwy : Rw y = [.sl (y.map V.cs)] := rfl
        have hcm := fun s => hcmp y x s oy ox
        by_cases hc : cmpT y x < 0
        · rw [if_pos hc] at hpos
          repeat' (first
            | refine WP.t ?_ | refine WP.k ?_ | refine WP.e ?_ | refine Qn ?_ | refine Qr ?_ | refine Qe ?_ | refine Bn ?_ | refine Br ?_ | refine Be ?_ | refine Bx (by decide) ?_
            | (refine RS.nl ?_; refine hk _ _ ?_; clear hk k)
            | (refine RS.st fun A B hA hB => ?_; simp [k0, k3, k4, k5, hx, rwx, abuiltin, alenOk, alen, hlti, ti36, ti22, elemOfT, elemId, aindex, hget, hy, rwy, hcm, hc, hji, w2, onW_t, onW_f, onV_s]; first | (refine hA _ _ _ ?_ ?_; (focus (first | (simp [k0, k3, k4, k5, hx, rwx, abuiltin, alenOk, alen, hlti, ti36, ti22, elemOfT, elemId, aindex, hget, hy, rwy, hcm, hc, hji, w2]; done) | (simp [k0, k3, k4, k5, hx, rwx, abuiltin, alenOk, alen, hlti, ti36, ti22, elemOfT, elemId, aindex, hget, hy, rwy, hcm, hc, hji, w2]; omega))); clear hA hB A B) | (refine hB ?_; clear hA hB A B))
            | (refine RQ.nl ?_; refine hk _ _ ?_; clear hk k)
            | (refine RW.nl ?_; refine hk _ _ ?_; clear hk k)
            | (refine RW.st fun A B hA hB => ?_; simp [k0, k3, k4, k5, hx, rwx, abuiltin, alenOk, alen, hlti, ti36, ti22, elemOfT, elemId, aindex, hget, hy, rwy, hcm, hc, hji, w2, onW_t, onW_f, onV_s]; first | (refine hA _ _ _ ?_ (by first | exact .inl (by decide) | exact .inr (.inl rfl) | exact .inr (.inr rfl)) (by first | exact .inl (by decide) | exact .inr (.inl (by decide)) | exact .inr (.inr fun s2 => by simp [k0, k3, k4, k5, hx, rwx, abuiltin, alenOk, alen, hlti, ti36, ti22, elemOfT, elemId, aindex, hget, hy, rwy, hcm, hc, hji, w2])) ?_; (focus (first | (simp [k0, k3, k4, k5, hx, rwx, abuiltin, alenOk, alen, hlti, ti36, ti22, elemOfT, elemId, aindex, hget, hy, rwy, hcm, hc, hji, w2]; done) | (simp [k0, k3, k4, k5, hx, rwx, abuiltin, alenOk, alen, hlti, ti36, ti22, elemOfT, elemId, aindex, hget, hy, rwy, hcm, hc, hji, w2]; omega))); clear hA hB A B) | (refine hB ?_; clear hA hB A B))
            | (refine RQ.st fun A B hA hB => ?_; simp [k0, k3, k4, k5, hx, rwx, abuiltin, alenOk, alen, hlti, ti36, ti22, elemOfT, elemId, aindex, hget, hy, rwy, hcm, hc, hji, w2, onW_t, onW_f, onV_s]; first | (refine hA _ _ _ ?_ (by first | exact .inl rfl | exact .inr (by decide)) ?_; (focus (first | (simp [k0, k3, k4, k5, hx, rwx, abuiltin, alenOk, alen, hlti, ti36, ti22, elemOfT, elemId, aindex, hget, hy, rwy, hcm, hc, hji, w2]; done) | (simp [k0, k3, k4, k5, hx, rwx, abuiltin, alenOk, alen, hlti, ti36, ti22, elemOfT, elemId, aindex, hget, hy, rwy, hcm, hc, hji, w2]; omega))); clear hA hB A B) | (refine hB ?_; clear hA hB A B))
            | refine WP.sr fun k hk => ?_ | refine WP.r fun k hk => ?_ | refine WP.sd _ rfl fun k hk => ?_ | refine WP.d _ rfl fun k hk => ?_
            | (refine WP.cc fun A B hA hB => ?_; simp [k0, k3, k4, k5, hx, rwx, abuiltin, alenOk, alen, hlti, ti36, ti22, elemOfT, elemId, aindex, hget, hy, rwy, hcm, hc, hji, w2, onB_t, onB_f]; first | (refine hA ?_; clear hA hB A B) | (refine hB ?_; clear hA hB A B) | (refine onB_if (fun h => hA ?_) (fun h => hB ?_) <;> clear hA hB A B))
            | refine WP.q ?_ | refine WP.b ?_)
          exact ⟨R.length - (j + 1), by omega, rfl, j + 1, rfl, by omega, by omega, by simp [k0], by simp [k3], by simp [k4], by simp [w2]⟩
        · rw [if_neg hc] at hpos
          have hpj : posR x R = j := by omega
          rw [hpj, hgd] at hstep
          by_cases hz : cmpT y x = 0
          · rw [if_pos ⟨hj, hz⟩] at hstep
            rw [hstep] at hfold
            repeat' (first
              | refine WP.t ?_ | refine WP.k ?_ | refine WP.e ?_ | refine Qn ?_ | refine Qr ?_ | refine Qe ?_ | refine Bn ?_ | refine Br ?_ | refine Be ?_ | refine Bx (by decide) ?_
              | (refine RS.nl ?_; refine hk _ _ ?_; clear hk k)
              | (refine RS.st fun A B hA hB => ?_; simp [k0, k3, k4, k5, hx, rwx, abuiltin, alenOk, alen, hlti, ti36, ti22, elemOfT, elemId, aindex, hget, hy, rwy, hcm, hc, hz, hji, w1, onW_t, onW_f, onV_s]; first | (refine hA _ _ _ ?_ ?_; (focus (first | (simp [k0, k3, k4, k5, hx, rwx, abuiltin, alenOk, alen, hlti, ti36, ti22, elemOfT, elemId, aindex, hget, hy, rwy, hcm, hc, hz, hji, w1]; done) | (simp [k0, k3, k4, k5, hx, rwx, abuiltin, alenOk, alen, hlti, ti36, ti22, elemOfT, elemId, aindex, hget, hy, rwy, hcm, hc, hz, hji, w1]; omega))); clear hA hB A B) | (refine hB ?_; clear hA hB A B))
              | (refine RQ.nl ?_; refine hk _ _ ?_; clear hk k)
              | (refine RW.nl ?_; refine hk _ _ ?_; clear hk k)
              | (refine RW.st fun A B hA hB => ?_; simp [k0, k3, k4, k5, hx, rwx, abuiltin, alenOk, alen, hlti, ti36, ti22, elemOfT, elemId, aindex, hget, hy, rwy, hcm, hc, hz, hji, w1, onW_t, onW_f, onV_s]; first | (refine hA _ _ _ ?_ (by first | exact .inl (by decide) | exact .inr (.inl rfl) | exact .inr (.inr rfl)) (by first | exact .inl (by decide) | exact .inr (.inl (by decide)) | exact .inr (.inr fun s2 => by simp [k0, k3, k4, k5, hx, rwx, abuiltin, alenOk, alen, hlti, ti36, ti22, elemOfT, elemId, aindex, hget, hy, rwy, hcm, hc, hz, hji, w1])) ?_; (focus (first | (simp [k0, k3, k4, k5, hx, rwx, abuiltin, alenOk, alen, hlti, ti36, ti22, elemOfT, elemId, aindex, hget, hy, rwy, hcm, hc, hz, hji, w1]; done) | (simp [k0, k3, k4, k5, hx, rwx, abuiltin, alenOk, alen, hlti, ti36, ti22, elemOfT, elemId, aindex, hget, hy, rwy, hcm, hc, hz, hji, w1]; omega))); clear hA hB A B) | (refine hB ?_; clear hA hB A B))
              | (refine RQ.st fun A B hA hB => ?_; simp [k0, k3, k4, k5, hx, rwx, abuiltin, alenOk, alen, hlti, ti36, ti22, elemOfT, elemId, aindex, hget, hy, rwy, hcm, hc, hz, hji, w1, onW_t, onW_f, onV_s]; first | (refine hA _ _ _ ?_ (by first | exact .inl rfl | exact .inr (by decide)) ?_; (focus (first | (simp [k0, k3, k4, k5, hx, rwx, abuiltin, alenOk, alen, hlti, ti36, ti22, elemOfT, elemId, aindex, hget, hy, rwy, hcm, hc, hz, hji, w1]; done) | (simp [k0, k3, k4, k5, hx, rwx, abuiltin, alenOk, alen, hlti, ti36, ti22, elemOfT, elemId, aindex, hget, hy, rwy, hcm, hc, hz, hji, w1]; omega))); clear hA hB A B) | (refine hB ?_; clear hA hB A B))
              | refine WP.sr fun k hk => ?_ | refine WP.r fun k hk => ?_ | refine WP.sd _ rfl fun k hk => ?_ | refine WP.d _ rfl fun k hk => ?_
              | (refine WP.cc fun A B hA hB => ?_; simp [k0, k3, k4, k5, hx, rwx, abuiltin, alenOk, alen, hlti, ti36, ti22, elemOfT, elemId, aindex, hget, hy, rwy, hcm, hc, hz, hji, w1, onB_t, onB_f]; first | (refine hA ?_; clear hA hB A B) | (refine hB ?_; clear hA hB A B) | (refine onB_if (fun h => hA ?_) (fun h => hB ?_) <;> clear hA hB A B))
              | refine WP.q ?_ | refine WP.b ?_)
            exact ⟨D.length - (i + 1), by omega, i + 1, R, rfl, by omega, by omega, hokR, hnx, hfold, by simp [k0], by simp [w1], .inr ⟨rd, hrd, hrd2, hget, by simp [k3]⟩⟩
          · rw [if_neg (fun h => hz h.2)] at hstep
            rw [hstep] at hfold
            have hz2 : (cmpT y x == 0) = false := by rw [beq_eq_false_iff_ne]; exact hz
            repeat' (first
              | refine WP.t ?_ | refine WP.k ?_ | refine WP.e ?_ | refine Qn ?_ | refine Qr ?_ | refine Qe ?_ | refine Bn ?_ | refine Br ?_ | refine Be ?_ | refine Bx (by decide) ?_
              | (refine RS.nl ?_; refine hk _ _ ?_; clear hk k)
              | (refine RS.st fun A B hA hB => ?_; simp [k0, k3, k4, k5, hx, rwx, abuiltin, alenOk, alen, hlti, ti36, ti22, elemOfT, elemId, aindex, hget, asliceOk, aslice, abound, abuildSlice, afill, chunks, ard, aappend, isSS, AV.isStr, hnx, hjR, encD_take, encD_drop, encD_append, encD_sing, encD_one, ne0, ne1, ne2, ne3, ne4, jl, jmin, b1, b2, b3, hrd2, St.get_push, St.get_drop, hy, rwy, hcm, hc, hz, hz2, hji, w1, onW_t, onW_f, onV_s]; first | (refine hA _ _ _ ?_ ?_; (focus (first | (simp [k0, k3, k4, k5, hx, rwx, abuiltin, alenOk, alen, hlti, ti36, ti22, elemOfT, elemId, aindex, hget, asliceOk, aslice, abound, abuildSlice, afill, chunks, ard, aappend, isSS, AV.isStr, hnx, hjR, encD_take, encD_drop, encD_append, encD_sing, encD_one, ne0, ne1, ne2, ne3, ne4, jl, jmin, b1, b2, b3, hrd2, St.get_push, St.get_drop, hy, rwy, hcm, hc, hz, hz2, hji, w1]; done) | (simp [k0, k3, k4, k5, hx, rwx, abuiltin, alenOk, alen, hlti, ti36, ti22, elemOfT, elemId, aindex, hget, asliceOk, aslice, abound, abuildSlice, afill, chunks, ard, aappend, isSS, AV.isStr, hnx, hjR, encD_take, encD_drop, encD_append, encD_sing, encD_one, ne0, ne1, ne2, ne3, ne4, jl, jmin, b1, b2, b3, hrd2, St.get_push, St.get_drop, hy, rwy, hcm, hc, hz, hz2, hji, w1]; omega))); clear hA hB A B) | (refine hB ?_; clear hA hB A B))
              | (refine RQ.nl ?_; refine hk _ _ ?_; clear hk k)
              | (refine RW.nl ?_; refine hk _ _ ?_; clear hk k)
              | (refine RW.st fun A B hA hB => ?_; simp [k0, k3, k4, k5, hx, rwx, abuiltin, alenOk, alen, hlti, ti36, ti22, elemOfT, elemId, aindex, hget, asliceOk, aslice, abound, abuildSlice, afill, chunks, ard, aappend, isSS, AV.isStr, hnx, hjR, encD_take, encD_drop, encD_append, encD_sing, encD_one, ne0, ne1, ne2, ne3, ne4, jl, jmin, b1, b2, b3, hrd2, St.get_push, St.get_drop, hy, rwy, hcm, hc, hz, hz2, hji, w1, onW_t, onW_f, onV_s]; first | (refine hA _ _ _ ?_ (by first | exact .inl (by decide) | exact .inr (.inl rfl) | exact .inr (.inr rfl)) (by first | exact .inl (by decide) | exact .inr (.inl (by decide)) | exact .inr (.inr fun s2 => by simp [k0, k3, k4, k5, hx, rwx, abuiltin, alenOk, alen, hlti, ti36, ti22, elemOfT, elemId, aindex, hget, asliceOk, aslice, abound, abuildSlice, afill, chunks, ard, aappend, isSS, AV.isStr, hnx, hjR, encD_take, encD_drop, encD_append, encD_sing, encD_one, ne0, ne1, ne2, ne3, ne4, jl, jmin, b1, b2, b3, hrd2, St.get_push, St.get_drop, hy, rwy, hcm, hc, hz, hz2, hji, w1])) ?_; (focus (first | (simp [k0, k3, k4, k5, hx, rwx, abuiltin, alenOk, alen, hlti, ti36, ti22, elemOfT, elemId, aindex, hget, asliceOk, aslice, abound, abuildSlice, afill, chunks, ard, aappend, isSS, AV.isStr, hnx, hjR, encD_take, encD_drop, encD_append, encD_sing, encD_one, ne0, ne1, ne2, ne3, ne4, jl, jmin, b1, b2, b3, hrd2, St.get_push, St.get_drop, hy, rwy, hcm, hc, hz, hz2, hji, w1]; done) | (simp [k0, k3, k4, k5, hx, rwx, abuiltin, alenOk, alen, hlti, ti36, ti22, elemOfT, elemId, aindex, hget, asliceOk, aslice, abound, abuildSlice, afill, chunks, ard, aappend, isSS, AV.isStr, hnx, hjR, encD_take, encD_drop, encD_append, encD_sing, encD_one, ne0, ne1, ne2, ne3, ne4, jl, jmin, b1, b2, b3, hrd2, St.get_push, St.get_drop, hy, rwy, hcm, hc, hz, hz2, hji, w1]; omega))); clear hA hB A B) | (refine hB ?_; clear hA hB A B))
              | (refine RQ.st fun A B hA hB => ?_; simp [k0, k3, k4, k5, hx, rwx, abuiltin, alenOk, alen, hlti, ti36, ti22, elemOfT, elemId, aindex, hget, asliceOk, aslice, abound, abuildSlice, afill, chunks, ard, aappend, isSS, AV.isStr, hnx, hjR, encD_take, encD_drop, encD_append, encD_sing, encD_one, ne0, ne1, ne2, ne3, ne4, jl, jmin, b1, b2, b3, hrd2, St.get_push, St.get_drop, hy, rwy, hcm, hc, hz, hz2, hji, w1, onW_t, onW_f, onV_s]; first | (refine hA _ _ _ ?_ (by first | exact .inl rfl | exact .inr (by decide)) ?_; (focus (first | (simp [k0, k3, k4, k5, hx, rwx, abuiltin, alenOk, alen, hlti, ti36, ti22, elemOfT, elemId, aindex, hget, asliceOk, aslice, abound, abuildSlice, afill, chunks, ard, aappend, isSS, AV.isStr, hnx, hjR, encD_take, encD_drop, encD_append, encD_sing, encD_one, ne0, ne1, ne2, ne3, ne4, jl, jmin, b1, b2, b3, hrd2, St.get_push, St.get_drop, hy, rwy, hcm, hc, hz, hz2, hji, w1]; done) | (simp [k0, k3, k4, k5, hx, rwx, abuiltin, alenOk, alen, hlti, ti36, ti22, elemOfT, elemId, aindex, hget, asliceOk, aslice, abound, abuildSlice, afill, chunks, ard, aappend, isSS, AV.isStr, hnx, hjR, encD_take, encD_drop, encD_append, encD_sing, encD_one, ne0, ne1, ne2, ne3, ne4, jl, jmin, b1, b2, b3, hrd2, St.get_push, St.get_drop, hy, rwy, hcm, hc, hz, hz2, hji, w1]; omega))); clear hA hB A B) | (refine hB ?_; clear hA hB A B))
              | refine WP.sr fun k hk => ?_ | refine WP.r fun k hk => ?_ | refine WP.sd _ rfl fun k hk => ?_ | refine WP.d _ rfl fun k hk => ?_
              | (refine WP.cc fun A B hA hB => ?_; simp [k0, k3, k4, k5, hx, rwx, abuiltin, alenOk, alen, hlti, ti36, ti22, elemOfT, elemId, aindex, hget, asliceOk, aslice, abound, abuildSlice, afill, chunks, ard, aappend, isSS, AV.isStr, hnx, hjR, encD_take, encD_drop, encD_append, encD_sing, encD_one, ne0, ne1, ne2, ne3, ne4, jl, jmin, b1, b2, b3, hrd2, St.get_push, St.get_drop, hy, rwy, hcm, hc, hz, hz2, hji, w1, onB_t, onB_f]; first | (refine hA ?_; clear hA hB A B) | (refine hB ?_; clear hA hB A B) | (refine onB_if (fun h => hA ?_) (fun h => hB ?_) <;> clear hA hB A B))
              | refine WP.q ?_ | refine WP.b ?_)
            refine ⟨D.length - (i + 1), by omega, i + 1, R.take j ++ [x] ++ R.drop j, rfl, by omega, by simp; omega, fun t ht => ?_, by simp; omega, hfold, by simp [k0], by simp [w1], .inr ⟨s2.nx + 1 + 1 + 1 + 1, by omega, by simp, by simp [tdr], by simp [jmin]; omega⟩⟩
            simp only [List.mem_append, List.mem_singleton] at ht
            rcases ht with (ht | rfl) | ht
            · exact hokR t (List.mem_of_mem_take ht)
            · exact ox
            · exact hokR t (List.mem_of_mem_drop ht)
      · have hji : ¬ (j : Int) < (R.length : Int) := by omega
        have hpj : posR x R = j := by
          have : R.drop j = [] := List.drop_of_length_le (by omega)
          rw [this] at hpos
          exact hpos.symm
        rw [hpj, if_neg (fun h => hj h.1)] at hstep
        rw [hstep] at hfold
        repeat' (first
          | refine WP.t ?_ | refine WP.k ?_ | refine WP.e ?_ | refine Qn ?_ | refine Qr ?_ | refine Qe ?_ | refine Bn ?_ | refine Br ?_ | refine Be ?_ | refine Bx (by decide) ?_
          | (refine RS.nl ?_; refine hk _ _ ?_; clear hk k)
          | (refine RS.st fun A B hA hB => ?_; simp [k0, k3, k4, k5, hx, rwx, abuiltin, alenOk, alen, hlti, ti36, ti22, elemOfT, elemId, aindex, hget, asliceOk, aslice, abound, abuildSlice, afill, chunks, ard, aappend, isSS, AV.isStr, hnx, hjR, encD_take, encD_drop, encD_append, encD_sing, encD_one, ne0, ne1, ne2, ne3, ne4, jl, jmin, b1, b2, b3, hrd2, St.get_push, St.get_drop, hji, w1, onW_t, onW_f, onV_s]; first | (refine hA _ _ _ ?_ ?_; (focus (first | (simp [k0, k3, k4, k5, hx, rwx, abuiltin, alenOk, alen, hlti, ti36, ti22, elemOfT, elemId, aindex, hget, asliceOk, aslice, abound, abuildSlice, afill, chunks, ard, aappend, isSS, AV.isStr, hnx, hjR, encD_take, encD_drop, encD_append, encD_sing, encD_one, ne0, ne1, ne2, ne3, ne4, jl, jmin, b1, b2, b3, hrd2, St.get_push, St.get_drop, hji, w1]; done) | (simp [k0, k3, k4, k5, hx, rwx, abuiltin, alenOk, alen, hlti, ti36, ti22, elemOfT, elemId, aindex, hget, asliceOk, aslice, abound, abuildSlice, afill, chunks, ard, aappend, isSS, AV.isStr, hnx, hjR, encD_take, encD_drop, encD_append, encD_sing, encD_one, ne0, ne1, ne2, ne3, ne4, jl, jmin, b1, b2, b3, hrd2, St.get_push, St.get_drop, hji, w1]; omega))); clear hA hB A B) | (refine hB ?_; clear hA hB A B))
          | (refine RQ.nl ?_; refine hk _ _ ?_; clear hk k)
          | (refine RW.nl ?_; refine hk _ _ ?_; clear hk k)
          | (refine RW.st fun A B hA hB => ?_; simp [k0, k3, k4, k5, hx, rwx, abuiltin, alenOk, alen, hlti, ti36, ti22, elemOfT, elemId, aindex, hget, asliceOk, aslice, abound, abuildSlice, afill, chunks, ard, aappend, isSS, AV.isStr, hnx, hjR, encD_take, encD_drop, encD_append, encD_sing, encD_one, ne0, ne1, ne2, ne3, ne4, jl, jmin, b1, b2, b3, hrd2, St.get_push, St.get_drop, hji, w1, onW_t, onW_f, onV_s]; first | (refine hA _ _ _ ?_ (by first | exact .inl (by decide) | exact .inr (.inl rfl) | exact .inr (.inr rfl)) (by first | exact .inl (by decide) | exact .inr (.inl (by decide)) | exact .inr (.inr fun s2 => by simp [k0, k3, k4, k5, hx, rwx, abuiltin, alenOk, alen, hlti, ti36, ti22, elemOfT, elemId, aindex, hget, asliceOk, aslice, abound, abuildSlice, afill, chunks, ard, aappend, isSS, AV.isStr, hnx, hjR, encD_take, encD_drop, encD_append, encD_sing, encD_one, ne0, ne1, ne2, ne3, ne4, jl, jmin, b1, b2, b3, hrd2, St.get_push, St.get_drop, hji, w1])) ?_; (focus (first | (simp [k0, k3, k4, k5, hx, rwx, abuiltin, alenOk, alen, hlti, ti36, ti22, elemOfT, elemId, aindex, hget, asliceOk, aslice, abound, abuildSlice, afill, chunks, ard, aappend, isSS, AV.isStr, hnx, hjR, encD_take, encD_drop, encD_append, encD_sing, encD_one, ne0, ne1, ne2, ne3, ne4, jl, jmin, b1, b2, b3, hrd2, St.get_push, St.get_drop, hji, w1]; done) | (simp [k0, k3, k4, k5, hx, rwx, abuiltin, alenOk, alen, hlti, ti36, ti22, elemOfT, elemId, aindex, hget, asliceOk, aslice, abound, abuildSlice, afill, chunks, ard, aappend, isSS, AV.isStr, hnx, hjR, encD_take, encD_drop, encD_append, encD_sing, encD_one, ne0, ne1, ne2, ne3, ne4, jl, jmin, b1, b2, b3, hrd2, St.get_push, St.get_drop, hji, w1]; omega))); clear hA hB A B) | (refine hB ?_; clear hA hB A B))
          | (refine RQ.st fun A B hA hB => ?_; simp [k0, k3, k4, k5, hx, rwx, abuiltin, alenOk, alen, hlti, ti36, ti22, elemOfT, elemId, aindex, hget, asliceOk, aslice, abound, abuildSlice, afill, chunks, ard, aappend, isSS, AV.isStr, hnx, hjR, encD_take, encD_drop, encD_append, encD_sing, encD_one, ne0, ne1, ne2, ne3, ne4, jl, jmin, b1, b2, b3, hrd2, St.get_push, St.get_drop, hji, w1, onW_t, onW_f, onV_s]; first | (refine hA _ _ _ ?_ (by first | exact .inl rfl | exact .inr (by decide)) ?_; (focus (first | (simp [k0, k3, k4, k5, hx, rwx, abuiltin, alenOk, alen, hlti, ti36, ti22, elemOfT, elemId, aindex, hget, asliceOk, aslice, abound, abuildSlice, afill, chunks, ard, aappend, isSS, AV.isStr, hnx, hjR, encD_take, encD_drop, encD_append, encD_sing, encD_one, ne0, ne1, ne2, ne3, ne4, jl, jmin, b1, b2, b3, hrd2, St.get_push, St.get_drop, hji, w1]; done) | (simp [k0, k3, k4, k5, hx, rwx, abuiltin, alenOk, alen, hlti, ti36, ti22, elemOfT, elemId, aindex, hget, asliceOk, aslice, abound, abuildSlice, afill, chunks, ard, aappend, isSS, AV.isStr, hnx, hjR, encD_take, encD_drop, encD_append, encD_sing, encD_one, ne0, ne1, ne2, ne3, ne4, jl, jmin, b1, b2, b3, hrd2, St.get_push, St.get_drop, hji, w1]; omega))); clear hA hB A B) | (refine hB ?_; clear hA hB A B))
          | refine WP.sr fun k hk => ?_ | refine WP.r fun k hk => ?_ | refine WP.sd _ rfl fun k hk => ?_ | refine WP.d _ rfl fun k hk => ?_
          | (refine WP.cc fun A B hA hB => ?_; simp [k0, k3, k4, k5, hx, rwx, abuiltin, alenOk, alen, hlti, ti36, ti22, elemOfT, elemId, aindex, hget, asliceOk, aslice, abound, abuildSlice, afill, chunks, ard, aappend, isSS, AV.isStr, hnx, hjR, encD_take, encD_drop, encD_append, encD_sing, encD_one, ne0, ne1, ne2, ne3, ne4, jl, jmin, b1, b2, b3, hrd2, St.get_push, St.get_drop, hji, w1, onB_t, onB_f]; first | (refine hA ?_; clear hA hB A B) | (refine hB ?_; clear hA hB A B) | (refine onB_if (fun h => hA ?_) (fun h => hB ?_) <;> clear hA hB A B))
          | refine WP.q ?_ | refine WP.b ?_)
        refine ⟨D.length - (i + 1), by omega, i + 1, R.take j ++ [x] ++ R.drop j, rfl, by omega, by simp; omega, fun t ht => ?_, by simp; omega, hfold, by simp [k0], by simp [w1], .inr ⟨s2.nx + 1 + 1 + 1 + 1, by omega, by simp, by simp [tdr], by simp [jmin]; omega⟩⟩
        simp only [List.mem_append, List.mem_singleton] at ht
        rcases ht with (ht | rfl) | ht
        · exact hokR t (List.mem_of_mem_take ht)
        · exact ox
        · exact hokR t (List.mem_of_mem_drop ht)
  · have hlti : ¬ (i : Int) < (D.length : Int) := by omega
    have hdr : D.drop i = [] := List.drop_of_length_le (by omega)
    rw [hdr] at hfold
    have hfold : R = refS D := hfold
    repeat' (first
      | refine WP.t ?_ | refine WP.k ?_ | refine WP.e ?_ | refine Qn ?_ | refine Qr ?_ | refine Qe ?_ | refine Bn ?_ | refine Br ?_ | refine Be ?_ | refine Bx (by decide) ?_
      | (refine RS.nl ?_; refine hk _ _ ?_; clear hk k)
      | (refine RS.st fun A B hA hB => ?_; simp [g0, g4, abuiltin, alenOk, alen, hlti, ti36, onW_t, onW_f, onV_s]; first | (refine hA _ _ _ ?_ ?_; (focus (first | (simp [g0, g4, abuiltin, alenOk, alen, hlti, ti36]; done) | (simp [g0, g4, abuiltin, alenOk, alen, hlti, ti36]; omega))); clear hA hB A B) | (refine hB ?_; clear hA hB A B))
      | (refine RQ.nl ?_; refine hk _ _ ?_; clear hk k)
      | (refine RW.nl ?_; refine hk _ _ ?_; clear hk k)
      | (refine RW.st fun A B hA hB => ?_; simp [g0, g4, abuiltin, alenOk, alen, hlti, ti36, onW_t, onW_f, onV_s]; first | (refine hA _ _ _ ?_ (by first | exact .inl (by decide) | exact .inr (.inl rfl) | exact .inr (.inr rfl)) (by first | exact .inl (by decide) | exact .inr (.inl (by decide)) | exact .inr (.inr fun s2 => by simp [g0, g4, abuiltin, alenOk, alen, hlti, ti36])) ?_; (focus (first | (simp [g0, g4, abuiltin, alenOk, alen, hlti, ti36]; done) | (simp [g0, g4, abuiltin, alenOk, alen, hlti, ti36]; omega))); clear hA hB A B) | (refine hB ?_; clear hA hB A B))
      | (refine RQ.st fun A B hA hB => ?_; simp [g0, g4, abuiltin, alenOk, alen, hlti, ti36, onW_t, onW_f, onV_s]; first | (refine hA _ _ _ ?_ (by first | exact .inl rfl | exact .inr (by decide)) ?_; (focus (first | (simp [g0, g4, abuiltin, alenOk, alen, hlti, ti36]; done) | (simp [g0, g4, abuiltin, alenOk, alen, hlti, ti36]; omega))); clear hA hB A B) | (refine hB ?_; clear hA hB A B))
      | refine WP.sr fun k hk => ?_ | refine WP.r fun k hk => ?_ | refine WP.sd _ rfl fun k hk => ?_ | refine WP.d _ rfl fun k hk => ?_
      | (refine WP.cc fun A B hA hB => ?_; simp [g0, g4, abuiltin, alenOk, alen, hlti, ti36, onB_t, onB_f]; first | (refine hA ?_; clear hA hB A B) | (refine hB ?_; clear hA hB A B) | (refine onB_if (fun h => hA ?_) (fun h => hB ?_) <;> clear hA hB A B))
      | refine WP.q ?_ | refine WP.b ?_)
    rcases hB with ⟨g3, rfl⟩ | ⟨rd, hrd, hrd2, hget, g3⟩
    · rw [← hfold]
      exact ⟨.inr rfl, .nsl, by simp [g3], .nil⟩
    · rw [← hfold]
      exact ⟨.inr rfl, .ls rd 0 R.length, by simp [g3], frzRows hget hrd⟩
end
end Go.Am
namespace Go.Am
open Go.Proofs
def fewB (D : Rows0) : Bool := ((D.take 41).all fun t => decide (t.length ≤ 20)) && decide (D.length ≤ 40)
def pSrtR : List AV → Option AV
  | [.sl es] => match decD es with
    | some D => if D.length < 268435456 ∧ (D.all fun t => okR t) = true then some (.sl (encD (refS D))) else none
    | none => none
  | _ => none
def pFew : List AV → Option AV
  | [.sl es] => match decD es with
    | some D => if D.length < 268435456 ∧ okB D = true then some (.bool (fewB D)) else none
    | none => none
  | _ => none
open Classical in
noncomputable def pRowsE : List AV → Option AV
  | [.sl es, .sl ds] => match decD es with
    | some D => if es = ds ∧ D.length < 268435456 ∧ okB D = true then some (.bool true) else none
    | none => none
  | _ => none
section
variable {K : Nat} {gw : World} {s : St}
attribute [local simp] RS_cons' RS_nil RQ_nil RQ_cons' awanted xop zOf zrow aop ev T0 Slots.put Slots.set Slots.get awr WOk AV.may ofConst abinop aint isConst St.get_push St.get_put St.live AV.fit AV.cells AV.one fieldOf afieldAddr aload ofCells astore splice May eqres env_ti FinP ares aresL ares1 Fns.addP Fns.add
noncomputable def V1 : Fns := (V0.addP 18 pSrt).addP 19 pSrtR
theorem V1_ok (hK : 0 < K) (hT : Tens gw) : FOk (env K gw) V1 := by
  refine ((V0_ok hK hT).addP fun xs s r h => ?_).addP fun xs s r h => ?_
  · unfold pSrt at h
    split at h
    · split at h
      · rename_i D hD
        split at h
        · rename_i hl
          cases h
          rw [decD_eq hD]
          exact ft18 (by omega) hT D hl.1 (okB_iff.1 hl.2)
        · cases h
      · cases h
    · cases h
  · unfold pSrtR at h
    split at h
    · split at h
      · rename_i D hD
        split at h
        · rename_i hl
          cases h
          rw [decD_eq hD]
          exact ft19 hK hT D hl.1 (fun t ht => List.all_eq_true.1 hl.2 t ht)
        · cases h
      · cases h
    · cases h
set_option maxRecDepth 20000 in
set_option maxHeartbeats 16000000 in
theorem ft16 (D : Rows0) (hl : D.length < 268435456) (hok : okD D) :
    FT (env K gw) NoW 16 [.sl (encD D)] s (.bool (fewB D)) s := by
  refine FT.pure (fn := Tryd.f16) F0_ok mixed Tryd.func16 (by kernel_rfl) (by rfl) rfl rfl (by simp) (by kernel_rfl) fun μ w => ?_
  repeat' (first
    | refine WP.t ?_ | refine WP.k ?_ | refine WP.e ?_ | refine Qn ?_ | refine Qr ?_ | refine Qe ?_ | refine Bn ?_ | refine Br ?_ | refine Be ?_ | refine Bx (by decide) ?_
    | (refine RS.nl ?_; refine hk _ _ ?_; clear hk k)
    | (refine RS.st fun A B hA hB => ?_; simp [F0, onW_t, onW_f, onV_s]; first | (refine hA _ _ _ ?_ ?_; (focus (first | (simp [F0]; done) | (simp [F0]; omega))); clear hA hB A B) | (refine hB ?_; clear hA hB A B))
    | (refine RQ.nl ?_; refine hk _ _ ?_; clear hk k)
    | (refine RW.nl ?_; refine hk _ _ ?_; clear hk k)
    | (refine RW.st fun A B hA hB => ?_; simp [F0, onW_t, onW_f, onV_s]; first | (refine hA _ _ _ ?_ (by first | exact .inl (by decide) | exact .inr (.inl rfl) | exact .inr (.inr rfl)) (by first | exact .inl (by decide) | exact .inr (.inl (by decide)) | exact .inr (.inr fun s2 => by simp [F0])) ?_; (focus (first | (simp [F0]; done) | (simp [F0]; omega))); clear hA hB A B) | (refine hB ?_; clear hA hB A B))
    | (refine RQ.st fun A B hA hB => ?_; simp [F0, onW_t, onW_f, onV_s]; first | (refine hA _ _ _ ?_ (by first | exact .inl rfl | exact .inr (by decide)) ?_; (focus (first | (simp [F0]; done) | (simp [F0]; omega))); clear hA hB A B) | (refine hB ?_; clear hA hB A B))
    | refine WP.sr fun k hk => ?_ | refine WP.r fun k hk => ?_ | refine WP.sd _ rfl fun k hk => ?_ | refine WP.d _ rfl fun k hk => ?_
    | (refine WP.cc fun A B hA hB => ?_; simp [F0, onB_t, onB_f]; first | (refine hA ?_; clear hA hB A B) | (refine hB ?_; clear hA hB A B) | (refine onB_if (fun h => hA ?_) (fun h => hB ?_) <;> clear hA hB A B))
    | refine WP.q ?_ | refine WP.b ?_)
  refine WP_loop (fun n T s' => ∃ i : Nat, n = 41 - i ∧ s' = s ∧ i ≤ D.length ∧ i ≤ 41 ∧ (∀ t ∈ D.take i, t.length ≤ 20) ∧ T.get 0 = .sl (encD D) ∧ T.get 3 = .int .i64 i) 41 ⟨0, rfl, rfl, by simp, by omega, by simp, by simp, by simp⟩ ?_
  rintro n T s' ⟨i, hn, rfl, hiD, hi, hall, g0, g3⟩
  have hend : ∀ b : Bool, (i = D.length ∨ i = 41) → fewB D = decide ((D.length : Int) ≤ 40) := fun b h => by
    unfold fewB
    have h1 : ((D.take 41).all fun t => decide (t.length ≤ 20)) = true ∨ 40 < D.length := by
      rcases h with h | h
      · left
        rw [h, List.take_length] at hall
        exact List.all_eq_true.2 fun t ht => by simpa using hall t (List.mem_of_mem_take ht)
      · right; omega
    rcases h1 with h1 | h1
    · rw [h1, Bool.true_and, decide_eq_decide]; omega
    · rw [Bool.and_comm]
      have e1 : decide (D.length ≤ 40) = false := by simp; omega
      have e2 : decide ((D.length : Int) ≤ 40) = false := by simp; omega
      rw [e1, e2]; rfl
  have w1 : IntKind.i64.wrap ((i : Int) + 1) = (i : Int) + 1 := wrap64 (by omega) (by omega)
  by_cases hlt : i < D.length
  · have hlti : (i : Int) < (D.length : Int) := by omega
    by_cases h41 : i < 41
    · have h41i : (i : Int) < 41 := by omega
      have hx := encD_get hlt
      have hmem : D[i] ∈ D.take 41 := by
        rw [List.mem_take_iff_getElem]
        exact ⟨i, by omega, rfl⟩
      have htk : D.take (i + 1) = D.take i ++ [D[i]] := by rw [List.take_add_one, List.getElem?_eq_getElem hlt]; rfl
      generalize D[i] = x at *
      have rwx : Rw x = [.sl (x.map V.cs)] := rfl
      by_cases hb : 20 < x.length
      · have hbi : (20 : Int) < (x.length : Int) := by omega
        have hf : fewB D = false := by
          unfold fewB
          rw [Bool.and_eq_false_iff]
          left
          cases h : (D.take 41).all fun t => decide (t.length ≤ 20)
          · rfl
          · have := List.all_eq_true.1 h x hmem
            simp at this
            omega
        rw [hf]
        repeat' (first
          | refine WP.t ?_ | refine WP.k ?_ | refine WP.e ?_ | refine Qn ?_ | refine Qr ?_ | refine Qe ?_ | refine Bn ?_ | refine Br ?_ | refine Be ?_ | refine Bx (by decide) ?_
          | (refine RS.nl ?_; refine hk _ _ ?_; clear hk k)
          | (refine RS.st fun A B hA hB => ?_; simp [g0, g3, abuiltin, alenOk, alen, hlti, h41i, hx, rwx, hbi, ti36, ti22, elemOfT, aindex, onW_t, onW_f, onV_s]; first | (refine hA _ _ _ ?_ ?_; (focus (first | (simp [g0, g3, abuiltin, alenOk, alen, hlti, h41i, hx, rwx, hbi, ti36, ti22, elemOfT, aindex]; done) | (simp [g0, g3, abuiltin, alenOk, alen, hlti, h41i, hx, rwx, hbi, ti36, ti22, elemOfT, aindex]; omega))); clear hA hB A B) | (refine hB ?_; clear hA hB A B))
          | (refine RQ.nl ?_; refine hk _ _ ?_; clear hk k)
          | (refine RW.nl ?_; refine hk _ _ ?_; clear hk k)
          | (refine RW.st fun A B hA hB => ?_; simp [g0, g3, abuiltin, alenOk, alen, hlti, h41i, hx, rwx, hbi, ti36, ti22, elemOfT, aindex, onW_t, onW_f, onV_s]; first | (refine hA _ _ _ ?_ (by first | exact .inl (by decide) | exact .inr (.inl rfl) | exact .inr (.inr rfl)) (by first | exact .inl (by decide) | exact .inr (.inl (by decide)) | exact .inr (.inr fun s2 => by simp [g0, g3, abuiltin, alenOk, alen, hlti, h41i, hx, rwx, hbi, ti36, ti22, elemOfT, aindex])) ?_; (focus (first | (simp [g0, g3, abuiltin, alenOk, alen, hlti, h41i, hx, rwx, hbi, ti36, ti22, elemOfT, aindex]; done) | (simp [g0, g3, abuiltin, alenOk, alen, hlti, h41i, hx, rwx, hbi, ti36, ti22, elemOfT, aindex]; omega))); clear hA hB A B) | (refine hB ?_; clear hA hB A B))
          | (refine RQ.st fun A B hA hB => ?_; simp [g0, g3, abuiltin, alenOk, alen, hlti, h41i, hx, rwx, hbi, ti36, ti22, elemOfT, aindex, onW_t, onW_f, onV_s]; first | (refine hA _ _ _ ?_ (by first | exact .inl rfl | exact .inr (by decide)) ?_; (focus (first | (simp [g0, g3, abuiltin, alenOk, alen, hlti, h41i, hx, rwx, hbi, ti36, ti22, elemOfT, aindex]; done) | (simp [g0, g3, abuiltin, alenOk, alen, hlti, h41i, hx, rwx, hbi, ti36, ti22, elemOfT, aindex]; omega))); clear hA hB A B) | (refine hB ?_; clear hA hB A B))
          | refine WP.sr fun k hk => ?_ | refine WP.r fun k hk => ?_ | refine WP.sd _ rfl fun k hk => ?_ | refine WP.d _ rfl fun k hk => ?_
          | (refine WP.cc fun A B hA hB => ?_; simp [g0, g3, abuiltin, alenOk, alen, hlti, h41i, hx, rwx, hbi, ti36, ti22, elemOfT, aindex, onB_t, onB_f]; first | (refine hA ?_; clear hA hB A B) | (refine hB ?_; clear hA hB A B) | (refine onB_if (fun h => hA ?_) (fun h => hB ?_) <;> clear hA hB A B))
          | refine WP.q ?_ | refine WP.b ?_)
        exact ⟨.inr rfl, rfl, by simp⟩
      · have hbi : ¬ (20 : Int) < (x.length : Int) := by omega
        repeat' (first
          | refine WP.t ?_ | refine WP.k ?_ | refine WP.e ?_ | refine Qn ?_ | refine Qr ?_ | refine Qe ?_ | refine Bn ?_ | refine Br ?_ | refine Be ?_ | refine Bx (by decide) ?_
          | (refine RS.nl ?_; refine hk _ _ ?_; clear hk k)
          | (refine RS.st fun A B hA hB => ?_; simp [g0, g3, abuiltin, alenOk, alen, hlti, h41i, hx, rwx, hbi, ti36, ti22, elemOfT, aindex, w1, onW_t, onW_f, onV_s]; first | (refine hA _ _ _ ?_ ?_; (focus (first | (simp [g0, g3, abuiltin, alenOk, alen, hlti, h41i, hx, rwx, hbi, ti36, ti22, elemOfT, aindex, w1]; done) | (simp [g0, g3, abuiltin, alenOk, alen, hlti, h41i, hx, rwx, hbi, ti36, ti22, elemOfT, aindex, w1]; omega))); clear hA hB A B) | (refine hB ?_; clear hA hB A B))
          | (refine RQ.nl ?_; refine hk _ _ ?_; clear hk k)
          | (refine RW.nl ?_; refine hk _ _ ?_; clear hk k)
          | (refine RW.st fun A B hA hB => ?_; simp [g0, g3, abuiltin, alenOk, alen, hlti, h41i, hx, rwx, hbi, ti36, ti22, elemOfT, aindex, w1, onW_t, onW_f, onV_s]; first | (refine hA _ _ _ ?_ (by first | exact .inl (by decide) | exact .inr (.inl rfl) | exact .inr (.inr rfl)) (by first | exact .inl (by decide) | exact .inr (.inl (by decide)) | exact .inr (.inr fun s2 => by simp [g0, g3, abuiltin, alenOk, alen, hlti, h41i, hx, rwx, hbi, ti36, ti22, elemOfT, aindex, w1])) ?_; (focus (first | (simp [g0, g3, abuiltin, alenOk, alen, hlti, h41i, hx, rwx, hbi, ti36, ti22, elemOfT, aindex, w1]; done) | (simp [g0, g3, abuiltin, alenOk, alen, hlti, h41i, hx, rwx, hbi, ti36, ti22, elemOfT, aindex, w1]; omega))); clear hA hB A B) | (refine hB ?_; clear hA hB A B))
          | (refine RQ.st fun A B hA hB => ?_; simp [g0, g3, abuiltin, alenOk, alen, hlti, h41i, hx, rwx, hbi, ti36, ti22, elemOfT, aindex, w1, onW_t, onW_f, onV_s]; first | (refine hA _ _ _ ?_ (by first | exact .inl rfl | exact .inr (by decide)) ?_; (focus (first | (simp [g0, g3, abuiltin, alenOk, alen, hlti, h41i, hx, rwx, hbi, ti36, ti22, elemOfT, aindex, w1]; done) | (simp [g0, g3, abuiltin, alenOk, alen, hlti, h41i, hx, rwx, hbi, ti36, ti22, elemOfT, aindex, w1]; omega))); clear hA hB A B) | (refine hB ?_; clear hA hB A B))
          | refine WP.sr fun k hk => ?_ | refine WP.r fun k hk => ?_ | refine WP.sd _ rfl fun k hk => ?_ | refine WP.d _ rfl fun k hk => ?_
          | (refine WP.cc fun A B hA hB => ?_; simp [g0, g3, abuiltin, alenOk, alen, hlti, h41i, hx, rwx, hbi, ti36, ti22, elemOfT, aindex, w1, onB_t, onB_f]; first | (refine hA ?_; clear hA hB A B) | (refine hB ?_; clear hA hB A B) | (refine onB_if (fun h => hA ?_) (fun h => hB ?_) <;> clear hA hB A B))
          | refine WP.q ?_ | refine WP.b ?_)
        refine ⟨41 - (i + 1), by omega, i + 1, rfl, rfl, by omega, by omega, fun t ht => ?_, by simp [g0], by simp [w1]⟩
        rw [htk] at ht
        rcases List.mem_append.1 ht with ht | ht
        · exact hall t ht
        · simp at ht; subst ht; omega
    · have h41i : ¬ (i : Int) < 41 := by omega
      have he := hend true (.inr (by omega))
      rw [he]
      repeat' (first
        | refine WP.t ?_ | refine WP.k ?_ | refine WP.e ?_ | refine Qn ?_ | refine Qr ?_ | refine Qe ?_ | refine Bn ?_ | refine Br ?_ | refine Be ?_ | refine Bx (by decide) ?_
        | (refine RS.nl ?_; refine hk _ _ ?_; clear hk k)
        | (refine RS.st fun A B hA hB => ?_; simp [g0, g3, abuiltin, alenOk, alen, hlti, h41i, ti36, ti22, elemOfT, aindex, onW_t, onW_f, onV_s]; first | (refine hA _ _ _ ?_ ?_; (focus (first | (simp [g0, g3, abuiltin, alenOk, alen, hlti, h41i, ti36, ti22, elemOfT, aindex]; done) | (simp [g0, g3, abuiltin, alenOk, alen, hlti, h41i, ti36, ti22, elemOfT, aindex]; omega))); clear hA hB A B) | (refine hB ?_; clear hA hB A B))
        | (refine RQ.nl ?_; refine hk _ _ ?_; clear hk k)
        | (refine RW.nl ?_; refine hk _ _ ?_; clear hk k)
        | (refine RW.st fun A B hA hB => ?_; simp [g0, g3, abuiltin, alenOk, alen, hlti, h41i, ti36, ti22, elemOfT, aindex, onW_t, onW_f, onV_s]; first | (refine hA _ _ _ ?_ (by first | exact .inl (by decide) | exact .inr (.inl rfl) | exact .inr (.inr rfl)) (by first | exact .inl (by decide) | exact .inr (.inl (by decide)) | exact .inr (.inr fun s2 => by simp [g0, g3, abuiltin, alenOk, alen, hlti, h41i, ti36, ti22, elemOfT, aindex])) ?_; (focus (first | (simp [g0, g3, abuiltin, alenOk, alen, hlti, h41i, ti36, ti22, elemOfT, aindex]; done) | (simp [g0, g3, abuiltin, alenOk, alen, hlti, h41i, ti36, ti22, elemOfT, aindex]; omega))); clear hA hB A B) | (refine hB ?_; clear hA hB A B))
        | (refine RQ.st fun A B hA hB => ?_; simp [g0, g3, abuiltin, alenOk, alen, hlti, h41i, ti36, ti22, elemOfT, aindex, onW_t, onW_f, onV_s]; first | (refine hA _ _ _ ?_ (by first | exact .inl rfl | exact .inr (by decide)) ?_; (focus (first | (simp [g0, g3, abuiltin, alenOk, alen, hlti, h41i, ti36, ti22, elemOfT, aindex]; done) | (simp [g0, g3, abuiltin, alenOk, alen, hlti, h41i, ti36, ti22, elemOfT, aindex]; omega))); clear hA hB A B) | (refine hB ?_; clear hA hB A B))
        | refine WP.sr fun k hk => ?_ | refine WP.r fun k hk => ?_ | refine WP.sd _ rfl fun k hk => ?_ | refine WP.d _ rfl fun k hk => ?_
        | (refine WP.cc fun A B hA hB => ?_; simp [g0, g3, abuiltin, alenOk, alen, hlti, h41i, ti36, ti22, elemOfT, aindex, onB_t, onB_f]; first | (refine hA ?_; clear hA hB A B) | (refine hB ?_; clear hA hB A B) | (refine onB_if (fun h => hA ?_) (fun h => hB ?_) <;> clear hA hB A B))
        | refine WP.q ?_ | refine WP.b ?_)
      exact ⟨.inr rfl, rfl, by simp⟩
  · have hlti : ¬ (i : Int) < (D.length : Int) := by omega
    have he := hend true (.inl (by omega))
    rw [he]
    repeat' (first
      | refine WP.t ?_ | refine WP.k ?_ | refine WP.e ?_ | refine Qn ?_ | refine Qr ?_ | refine Qe ?_ | refine Bn ?_ | refine Br ?_ | refine Be ?_ | refine Bx (by decide) ?_
      | (refine RS.nl ?_; refine hk _ _ ?_; clear hk k)
      | (refine RS.st fun A B hA hB => ?_; simp [g0, g3, abuiltin, alenOk, alen, hlti, ti36, ti22, elemOfT, aindex, onW_t, onW_f, onV_s]; first | (refine hA _ _ _ ?_ ?_; (focus (first | (simp [g0, g3, abuiltin, alenOk, alen, hlti, ti36, ti22, elemOfT, aindex]; done) | (simp [g0, g3, abuiltin, alenOk, alen, hlti, ti36, ti22, elemOfT, aindex]; omega))); clear hA hB A B) | (refine hB ?_; clear hA hB A B))
      | (refine RQ.nl ?_; refine hk _ _ ?_; clear hk k)
      | (refine RW.nl ?_; refine hk _ _ ?_; clear hk k)
      | (refine RW.st fun A B hA hB => ?_; simp [g0, g3, abuiltin, alenOk, alen, hlti, ti36, ti22, elemOfT, aindex, onW_t, onW_f, onV_s]; first | (refine hA _ _ _ ?_ (by first | exact .inl (by decide) | exact .inr (.inl rfl) | exact .inr (.inr rfl)) (by first | exact .inl (by decide) | exact .inr (.inl (by decide)) | exact .inr (.inr fun s2 => by simp [g0, g3, abuiltin, alenOk, alen, hlti, ti36, ti22, elemOfT, aindex])) ?_; (focus (first | (simp [g0, g3, abuiltin, alenOk, alen, hlti, ti36, ti22, elemOfT, aindex]; done) | (simp [g0, g3, abuiltin, alenOk, alen, hlti, ti36, ti22, elemOfT, aindex]; omega))); clear hA hB A B) | (refine hB ?_; clear hA hB A B))
      | (refine RQ.st fun A B hA hB => ?_; simp [g0, g3, abuiltin, alenOk, alen, hlti, ti36, ti22, elemOfT, aindex, onW_t, onW_f, onV_s]; first | (refine hA _ _ _ ?_ (by first | exact .inl rfl | exact .inr (by decide)) ?_; (focus (first | (simp [g0, g3, abuiltin, alenOk, alen, hlti, ti36, ti22, elemOfT, aindex]; done) | (simp [g0, g3, abuiltin, alenOk, alen, hlti, ti36, ti22, elemOfT, aindex]; omega))); clear hA hB A B) | (refine hB ?_; clear hA hB A B))
      | refine WP.sr fun k hk => ?_ | refine WP.r fun k hk => ?_ | refine WP.sd _ rfl fun k hk => ?_ | refine WP.d _ rfl fun k hk => ?_
      | (refine WP.cc fun A B hA hB => ?_; simp [g0, g3, abuiltin, alenOk, alen, hlti, ti36, ti22, elemOfT, aindex, onB_t, onB_f]; first | (refine hA ?_; clear hA hB A B) | (refine hB ?_; clear hA hB A B) | (refine onB_if (fun h => hA ?_) (fun h => hB ?_) <;> clear hA hB A B))
      | refine WP.q ?_ | refine WP.b ?_)
    exact ⟨.inr rfl, rfl, by simp⟩
set_option maxRecDepth 20000 in
set_option maxHeartbeats 16000000 in
theorem ft17 (hK : 0 < K) (hT : Tens gw) (D : Rows0) (hl : D.length < 268435456) (hok : okD D) :
    FT (env K gw) NoW 17 [.sl (encD D), .sl (encD D)] s (.bool true) s := by
  refine FT.pure (fn := Tryd.f17) (V0_ok hK hT) mixed Tryd.func17 (by kernel_rfl) (by rfl) rfl rfl (by simp) (by kernel_rfl) fun μ w => ?_
  have hsm : ∀ (x : List V) (s : St), x.length < LIM → V0 14 [.sl (x.map V.cs), .sl (x.map V.cs)] s = some (.bool true, s, []) := fun x s hx => by
    simp [V0, F17, Fns.addP, pSameT, hx]
  repeat' (first
    | refine WP.t ?_ | refine WP.k ?_ | refine WP.e ?_ | refine Qn ?_ | refine Qr ?_ | refine Qe ?_ | refine Bn ?_ | refine Br ?_ | refine Be ?_ | refine Bx (by decide) ?_
    | (refine RS.nl ?_; refine hk _ _ ?_; clear hk k)
    | (refine RS.st fun A B hA hB => ?_; simp [abuiltin, alenOk, alen, ti36, onW_t, onW_f, onV_s]; first | (refine hA _ _ _ ?_ ?_; (focus (first | (simp [abuiltin, alenOk, alen, ti36]; done) | (simp [abuiltin, alenOk, alen, ti36]; omega))); clear hA hB A B) | (refine hB ?_; clear hA hB A B))
    | (refine RQ.nl ?_; refine hk _ _ ?_; clear hk k)
    | (refine RW.nl ?_; refine hk _ _ ?_; clear hk k)
    | (refine RW.st fun A B hA hB => ?_; simp [abuiltin, alenOk, alen, ti36, onW_t, onW_f, onV_s]; first | (refine hA _ _ _ ?_ (by first | exact .inl (by decide) | exact .inr (.inl rfl) | exact .inr (.inr rfl)) (by first | exact .inl (by decide) | exact .inr (.inl (by decide)) | exact .inr (.inr fun s2 => by simp [abuiltin, alenOk, alen, ti36])) ?_; (focus (first | (simp [abuiltin, alenOk, alen, ti36]; done) | (simp [abuiltin, alenOk, alen, ti36]; omega))); clear hA hB A B) | (refine hB ?_; clear hA hB A B))
    | (refine RQ.st fun A B hA hB => ?_; simp [abuiltin, alenOk, alen, ti36, onW_t, onW_f, onV_s]; first | (refine hA _ _ _ ?_ (by first | exact .inl rfl | exact .inr (by decide)) ?_; (focus (first | (simp [abuiltin, alenOk, alen, ti36]; done) | (simp [abuiltin, alenOk, alen, ti36]; omega))); clear hA hB A B) | (refine hB ?_; clear hA hB A B))
    | refine WP.sr fun k hk => ?_ | refine WP.r fun k hk => ?_ | refine WP.sd _ rfl fun k hk => ?_ | refine WP.d _ rfl fun k hk => ?_
    | (refine WP.cc fun A B hA hB => ?_; simp [abuiltin, alenOk, alen, ti36, onB_t, onB_f]; first | (refine hA ?_; clear hA hB A B) | (refine hB ?_; clear hA hB A B) | (refine onB_if (fun h => hA ?_) (fun h => hB ?_) <;> clear hA hB A B))
    | refine WP.q ?_ | refine WP.b ?_)
  refine WP_loop (fun n T s' => ∃ i : Nat, n = D.length - i ∧ s' = s ∧ i ≤ D.length ∧ T.get 0 = .sl (encD D) ∧ T.get 1 = .sl (encD D) ∧ T.get 5 = .int .i64 i) D.length ⟨0, rfl, rfl, by simp, by simp, by simp, by simp⟩ ?_
  rintro n T s' ⟨i, hn, rfl, hiD, g0, g1, g5⟩
  by_cases hlt : i < D.length
  · have hlti : (i : Int) < (D.length : Int) := by omega
    have w1 : IntKind.i64.wrap ((i : Int) + 1) = (i : Int) + 1 := wrap64 (by omega) (by omega)
    have hx := encD_get hlt
    have ox := hok _ (List.getElem_mem hlt)
    generalize D[i] = x at *
    have rwx : Rw x = [.sl (x.map V.cs)] := rfl
    have hsx := fun s => hsm x s ox
    repeat' (first
      | refine WP.t ?_ | refine WP.k ?_ | refine WP.e ?_ | refine Qn ?_ | refine Qr ?_ | refine Qe ?_ | refine Bn ?_ | refine Br ?_ | refine Be ?_ | refine Bx (by decide) ?_
      | (refine RS.nl ?_; refine hk _ _ ?_; clear hk k)
      | (refine RS.st fun A B hA hB => ?_; simp [g0, g1, g5, abuiltin, alenOk, alen, hlti, hx, rwx, hsx, ti36, ti22, elemOfT, aindex, w1, aunop, onW_t, onW_f, onV_s]; first | (refine hA _ _ _ ?_ ?_; (focus (first | (simp [g0, g1, g5, abuiltin, alenOk, alen, hlti, hx, rwx, hsx, ti36, ti22, elemOfT, aindex, w1, aunop]; done) | (simp [g0, g1, g5, abuiltin, alenOk, alen, hlti, hx, rwx, hsx, ti36, ti22, elemOfT, aindex, w1, aunop]; omega))); clear hA hB A B) | (refine hB ?_; clear hA hB A B))
      | (refine RQ.nl ?_; refine hk _ _ ?_; clear hk k)
      | (refine RW.nl ?_; refine hk _ _ ?_; clear hk k)
      | (refine RW.st fun A B hA hB => ?_; simp [g0, g1, g5, abuiltin, alenOk, alen, hlti, hx, rwx, hsx, ti36, ti22, elemOfT, aindex, w1, aunop, onW_t, onW_f, onV_s]; first | (refine hA _ _ _ ?_ (by first | exact .inl (by decide) | exact .inr (.inl rfl) | exact .inr (.inr rfl)) (by first | exact .inl (by decide) | exact .inr (.inl (by decide)) | exact .inr (.inr fun s2 => by simp [g0, g1, g5, abuiltin, alenOk, alen, hlti, hx, rwx, hsx, ti36, ti22, elemOfT, aindex, w1, aunop])) ?_; (focus (first | (simp [g0, g1, g5, abuiltin, alenOk, alen, hlti, hx, rwx, hsx, ti36, ti22, elemOfT, aindex, w1, aunop]; done) | (simp [g0, g1, g5, abuiltin, alenOk, alen, hlti, hx, rwx, hsx, ti36, ti22, elemOfT, aindex, w1, aunop]; omega))); clear hA hB A B) | (refine hB ?_; clear hA hB A B))
      | (refine RQ.st fun A B hA hB => ?_; simp [g0, g1, g5, abuiltin, alenOk, alen, hlti, hx, rwx, hsx, ti36, ti22, elemOfT, aindex, w1, aunop, onW_t, onW_f, onV_s]; first | (refine hA _ _ _ ?_ (by first | exact .inl rfl | exact .inr (by decide)) ?_; (focus (first | (simp [g0, g1, g5, abuiltin, alenOk, alen, hlti, hx, rwx, hsx, ti36, ti22, elemOfT, aindex, w1, aunop]; done) | (simp [g0, g1, g5, abuiltin, alenOk, alen, hlti, hx, rwx, hsx, ti36, ti22, elemOfT, aindex, w1, aunop]; omega))); clear hA hB A B) | (refine hB ?_; clear hA hB A B))
      | refine WP.sr fun k hk => ?_ | refine WP.r fun k hk => ?_ | refine WP.sd _ rfl fun k hk => ?_ | refine WP.d _ rfl fun k hk => ?_
      | (refine WP.cc fun A B hA hB => ?_; simp [g0, g1, g5, abuiltin, alenOk, alen, hlti, hx, rwx, hsx, ti36, ti22, elemOfT, aindex, w1, aunop, onB_t, onB_f]; first | (refine hA ?_; clear hA hB A B) | (refine hB ?_; clear hA hB A B) | (refine onB_if (fun h => hA ?_) (fun h => hB ?_) <;> clear hA hB A B))
      | refine WP.q ?_ | refine WP.b ?_)
    exact ⟨D.length - (i + 1), by omega, i + 1, rfl, rfl, by omega, by simp [g0], by simp [g1], by simp [w1]⟩
  · have hlti : ¬ (i : Int) < (D.length : Int) := by omega
    repeat' (first
      | refine WP.t ?_ | refine WP.k ?_ | refine WP.e ?_ | refine Qn ?_ | refine Qr ?_ | refine Qe ?_ | refine Bn ?_ | refine Br ?_ | refine Be ?_ | refine Bx (by decide) ?_
      | (refine RS.nl ?_; refine hk _ _ ?_; clear hk k)
      | (refine RS.st fun A B hA hB => ?_; simp [g0, g1, g5, abuiltin, alenOk, alen, hlti, ti36, onW_t, onW_f, onV_s]; first | (refine hA _ _ _ ?_ ?_; (focus (first | (simp [g0, g1, g5, abuiltin, alenOk, alen, hlti, ti36]; done) | (simp [g0, g1, g5, abuiltin, alenOk, alen, hlti, ti36]; omega))); clear hA hB A B) | (refine hB ?_; clear hA hB A B))
      | (refine RQ.nl ?_; refine hk _ _ ?_; clear hk k)
      | (refine RW.nl ?_; refine hk _ _ ?_; clear hk k)
      | (refine RW.st fun A B hA hB => ?_; simp [g0, g1, g5, abuiltin, alenOk, alen, hlti, ti36, onW_t, onW_f, onV_s]; first | (refine hA _ _ _ ?_ (by first | exact .inl (by decide) | exact .inr (.inl rfl) | exact .inr (.inr rfl)) (by first | exact .inl (by decide) | exact .inr (.inl (by decide)) | exact .inr (.inr fun s2 => by simp [g0, g1, g5, abuiltin, alenOk, alen, hlti, ti36])) ?_; (focus (first | (simp [g0, g1, g5, abuiltin, alenOk, alen, hlti, ti36]; done) | (simp [g0, g1, g5, abuiltin, alenOk, alen, hlti, ti36]; omega))); clear hA hB A B) | (refine hB ?_; clear hA hB A B))
      | (refine RQ.st fun A B hA hB => ?_; simp [g0, g1, g5, abuiltin, alenOk, alen, hlti, ti36, onW_t, onW_f, onV_s]; first | (refine hA _ _ _ ?_ (by first | exact .inl rfl | exact .inr (by decide)) ?_; (focus (first | (simp [g0, g1, g5, abuiltin, alenOk, alen, hlti, ti36]; done) | (simp [g0, g1, g5, abuiltin, alenOk, alen, hlti, ti36]; omega))); clear hA hB A B) | (refine hB ?_; clear hA hB A B))
      | refine WP.sr fun k hk => ?_ | refine WP.r fun k hk => ?_ | refine WP.sd _ rfl fun k hk => ?_ | refine WP.d _ rfl fun k hk => ?_
      | (refine WP.cc fun A B hA hB => ?_; simp [g0, g1, g5, abuiltin, alenOk, alen, hlti, ti36, onB_t, onB_f]; first | (refine hA ?_; clear hA hB A B) | (refine hB ?_; clear hA hB A B) | (refine onB_if (fun h => hA ?_) (fun h => hB ?_) <;> clear hA hB A B))
      | refine WP.q ?_ | refine WP.b ?_)
    exact ⟨.inr rfl, rfl, by simp⟩
noncomputable def V2 : Fns := (V1.addP 16 pFew).addP 17 pRowsE
theorem V2_ok (hK : 0 < K) (hT : Tens gw) : FOk (env K gw) V2 := by
  refine ((V1_ok hK hT).addP fun xs s r h => ?_).addP fun xs s r h => ?_
  · unfold pFew at h
    split at h
    · split at h
      · rename_i D hD
        split at h
        · rename_i hl
          cases h
          rw [decD_eq hD]
          exact ft16 D hl.1 (okB_iff.1 hl.2)
        · cases h
      · cases h
    · cases h
  · unfold pRowsE at h
    split at h
    · split at h
      · rename_i D hD
        split at h
        · rename_i hl
          cases h
          rw [← hl.1, decD_eq hD]
          exact ft17 hK hT D hl.2.1 (okB_iff.1 hl.2.2)
        · cases h
      · cases h
    · cases h
end
end Go.Am
namespace Go.Am
open Go.Proofs
theorem compT_ok {D : Rows0} (h : okD D) : okD (compT D) := fun t ht => h t (compT_mem ht)
theorem srt_ok {D : Rows0} (h : okD D) : okD (srt D) := compT_ok (stable_ok h)
theorem srt_length (D : Rows0) : (srt D).length ≤ D.length := by
  have := compT_length (stable D)
  rw [stable_length] at this
  exact this
theorem okR_lt {t : List V} (h : okR t = true) : t.length < LIM := by
  simp only [okR, Bool.and_eq_true, decide_eq_true_eq] at h
  exact h.1
theorem okD_of {D : Rows0} (h : ∀ t ∈ D, okR t = true) : okD D := fun t ht => okR_lt (h t ht)
section
variable {K : Nat} {gw : World} {s : St}
attribute [local simp] RS_cons' RS_nil RQ_nil RQ_cons' awanted xop zOf zrow aop ev T0 Slots.put Slots.set Slots.get awr WOk AV.may ofConst abinop aint isConst St.get_push St.get_put St.live AV.fit AV.cells AV.one fieldOf afieldAddr aload ofCells astore splice May eqres env_ti FinP ares aresL ares1 Fns.addP Fns.add
set_option maxRecDepth 20000 in
set_option maxHeartbeats 16000000 in
theorem ft6 (hK : 0 < K) (hT : Tens gw) (D : Rows0) (hl : D.length < 268435456) (hok : ∀ t ∈ D, okR t = true) (hlaw : refS D = srt D) :
    FT (env K gw) NoW 6 [.sl (encD D)] s (.bool true) s := by
  refine FT.pure (fn := Tryd.f6) (V2_ok hK hT) mixed Tryd.func6 (by kernel_rfl) (by rfl) rfl rfl (by simp) (by kernel_rfl) fun μ w => ?_
  have ob : okB D = true := okB_iff.2 (okD_of hok)
  have os : (D.all fun t => okR t) = true := List.all_eq_true.2 hok
  have h10 : ∀ s, V2 10 [] s = some (.bool true, s, []) := fun s => by simp [V2, V1, V0, F17, F16, F15, F14, F13, Fns.addP, pShown]
  have h16 : ∀ s, V2 16 [.sl (encD D)] s = some (.bool (fewB D), s, []) := fun s => by simp [V2, Fns.addP, pFew, hl, ob]
  have h18 : ∀ s, V2 18 [.sl (encD D)] s = some (.sl (encD (srt D)), s, []) := fun s => by simp [V2, V1, Fns.addP, pSrt, hl, ob]
  have h19 : ∀ s, V2 19 [.sl (encD D)] s = some (.sl (encD (srt D)), s, []) := fun s => by rw [← hlaw]; simp [V2, V1, Fns.addP, pSrtR, hl, os]
  have hl2 : (srt D).length < 268435456 := Nat.lt_of_le_of_lt (srt_length D) hl
  have ob2 : okB (srt D) = true := okB_iff.2 (srt_ok (okD_of hok))
  have h17 : ∀ s, V2 17 [.sl (encD (srt D)), .sl (encD (srt D))] s = some (.bool true, s, []) := fun s => by simp [V2, Fns.addP, pRowsE, hl2, ob2]
  by_cases hf : fewB D = true
  · skip
    repeat' (first
      | refine WP.t ?_ | refine WP.k ?_ | refine WP.e ?_ | refine Qn ?_ | refine Qr ?_ | refine Qe ?_ | refine Bn ?_ | refine Br ?_ | refine Be ?_ | refine Bx (by decide) ?_
      | (refine RS.nl ?_; refine hk _ _ ?_; clear hk k)
      | (refine RS.st fun A B hA hB => ?_; simp [h10, h16, h17, h18, h19, hf, aunop, onW_t, onW_f, onV_s]; first | (refine hA _ _ _ ?_ ?_; (focus (first | (simp [h10, h16, h17, h18, h19, hf, aunop]; done) | (simp [h10, h16, h17, h18, h19, hf, aunop]; omega))); clear hA hB A B) | (refine hB ?_; clear hA hB A B))
      | (refine RQ.nl ?_; refine hk _ _ ?_; clear hk k)
      | (refine RW.nl ?_; refine hk _ _ ?_; clear hk k)
      | (refine RW.st fun A B hA hB => ?_; simp [h10, h16, h17, h18, h19, hf, aunop, onW_t, onW_f, onV_s]; first | (refine hA _ _ _ ?_ (by first | exact .inl (by decide) | exact .inr (.inl rfl) | exact .inr (.inr rfl)) (by first | exact .inl (by decide) | exact .inr (.inl (by decide)) | exact .inr (.inr fun s2 => by simp [h10, h16, h17, h18, h19, hf, aunop])) ?_; (focus (first | (simp [h10, h16, h17, h18, h19, hf, aunop]; done) | (simp [h10, h16, h17, h18, h19, hf, aunop]; omega))); clear hA hB A B) | (refine hB ?_; clear hA hB A B))
      | (refine RQ.st fun A B hA hB => ?_; simp [h10, h16, h17, h18, h19, hf, aunop, onW_t, onW_f, onV_s]; first | (refine hA _ _ _ ?_ (by first | exact .inl rfl | exact .inr (by decide)) ?_; (focus (first | (simp [h10, h16, h17, h18, h19, hf, aunop]; done) | (simp [h10, h16, h17, h18, h19, hf, aunop]; omega))); clear hA hB A B) | (refine hB ?_; clear hA hB A B))
      | refine WP.sr fun k hk => ?_ | refine WP.r fun k hk => ?_ | refine WP.sd _ rfl fun k hk => ?_ | refine WP.d _ rfl fun k hk => ?_
      | (refine WP.cc fun A B hA hB => ?_; simp [h10, h16, h17, h18, h19, hf, aunop, onB_t, onB_f]; first | (refine hA ?_; clear hA hB A B) | (refine hB ?_; clear hA hB A B) | (refine onB_if (fun h => hA ?_) (fun h => hB ?_) <;> clear hA hB A B))
      | refine WP.q ?_ | refine WP.b ?_)
    exact ⟨.inr rfl, rfl, by simp⟩
  · have hf : fewB D = false := by simpa using hf
    repeat' (first
      | refine WP.t ?_ | refine WP.k ?_ | refine WP.e ?_ | refine Qn ?_ | refine Qr ?_ | refine Qe ?_ | refine Bn ?_ | refine Br ?_ | refine Be ?_ | refine Bx (by decide) ?_
      | (refine RS.nl ?_; refine hk _ _ ?_; clear hk k)
      | (refine RS.st fun A B hA hB => ?_; simp [h10, h16, h17, h18, h19, hf, aunop, onW_t, onW_f, onV_s]; first | (refine hA _ _ _ ?_ ?_; (focus (first | (simp [h10, h16, h17, h18, h19, hf, aunop]; done) | (simp [h10, h16, h17, h18, h19, hf, aunop]; omega))); clear hA hB A B) | (refine hB ?_; clear hA hB A B))
      | (refine RQ.nl ?_; refine hk _ _ ?_; clear hk k)
      | (refine RW.nl ?_; refine hk _ _ ?_; clear hk k)
      | (refine RW.st fun A B hA hB => ?_; simp [h10, h16, h17, h18, h19, hf, aunop, onW_t, onW_f, onV_s]; first | (refine hA _ _ _ ?_ (by first | exact .inl (by decide) | exact .inr (.inl rfl) | exact .inr (.inr rfl)) (by first | exact .inl (by decide) | exact .inr (.inl (by decide)) | exact .inr (.inr fun s2 => by simp [h10, h16, h17, h18, h19, hf, aunop])) ?_; (focus (first | (simp [h10, h16, h17, h18, h19, hf, aunop]; done) | (simp [h10, h16, h17, h18, h19, hf, aunop]; omega))); clear hA hB A B) | (refine hB ?_; clear hA hB A B))
      | (refine RQ.st fun A B hA hB => ?_; simp [h10, h16, h17, h18, h19, hf, aunop, onW_t, onW_f, onV_s]; first | (refine hA _ _ _ ?_ (by first | exact .inl rfl | exact .inr (by decide)) ?_; (focus (first | (simp [h10, h16, h17, h18, h19, hf, aunop]; done) | (simp [h10, h16, h17, h18, h19, hf, aunop]; omega))); clear hA hB A B) | (refine hB ?_; clear hA hB A B))
      | refine WP.sr fun k hk => ?_ | refine WP.r fun k hk => ?_ | refine WP.sd _ rfl fun k hk => ?_ | refine WP.d _ rfl fun k hk => ?_
      | (refine WP.cc fun A B hA hB => ?_; simp [h10, h16, h17, h18, h19, hf, aunop, onB_t, onB_f]; first | (refine hA ?_; clear hA hB A B) | (refine hB ?_; clear hA hB A B) | (refine onB_if (fun h => hA ?_) (fun h => hB ?_) <;> clear hA hB A B))
      | refine WP.q ?_ | refine WP.b ?_)
    exact ⟨.inr rfl, rfl, by simp⟩
set_option maxRecDepth 20000 in
set_option maxHeartbeats 16000000 in
theorem ft7 (hK : 0 < K) (hT : Tens gw) (D : Rows0) (u : Nat) (hu : u < 256) (hl : D.length < 268435456) (hok : okD D) (hrise : ∀ (i : Nat) x y, (srt D)[i]? = some x → (srt D)[i + 1]? = some y → cmpT x y = -1)
    (hin : ∀ x ∈ D, ∃ y ∈ srt D, cmpT y x = 0) (hagain : srt (srt D) = srt D) :
    FT (env K gw) NoW 7 [.sl (encD D), .int .u8 u] s (.bool true) s := by
  refine FT.pure (fn := Tryd.f7) (V2_ok hK hT) mixed Tryd.func7 (by kernel_rfl) (by rfl) rfl rfl (by simp) (by kernel_rfl) fun μ w => ?_
  have ob : okB D = true := okB_iff.2 hok
  have h10 : ∀ s, V2 10 [] s = some (.bool true, s, []) := fun s => by simp [V2, V1, V0, F17, F16, F15, F14, F13, Fns.addP, pShown]
  have h16 : ∀ s, V2 16 [.sl (encD D)] s = some (.bool (fewB D), s, []) := fun s => by simp [V2, Fns.addP, pFew, hl, ob]
  have h18 : ∀ s, V2 18 [.sl (encD D)] s = some (.sl (encD (srt D)), s, []) := fun s => by simp [V2, V1, Fns.addP, pSrt, hl, ob]
  have hsl := srt_length D
  have hl2 : (srt D).length < 268435456 := Nat.lt_of_le_of_lt hsl hl
  have oks := srt_ok hok
  have ob2 : okB (srt D) = true := okB_iff.2 oks
  have h18b : ∀ s, V2 18 [.sl (encD (srt D))] s = some (.sl (encD (srt D)), s, []) := fun s => by
    have : pSrt [.sl (encD (srt D))] = some (.sl (encD (srt (srt D)))) := by simp [pSrt, hl2, ob2]
    rw [hagain] at this
    simp [V2, V1, Fns.addP, this]
  have h17 : ∀ s, V2 17 [.sl (encD (srt D)), .sl (encD (srt D))] s = some (.bool true, s, []) := fun s => by simp [V2, Fns.addP, pRowsE, hl2, ob2]
  have hcmp : ∀ (x y : List V) (s : St), x.length < LIM → y.length < LIM → V2 11 [.sl (x.map V.cs), .sl (y.map V.cs)] s = some (.int .i64 (cmpT x y), s, []) := fun x y s hx hy => by
    simp [V2, V1, V0, F17, F16, F15, F14, F13, F12, F11, F10, F9, F8, F7, F6, F5, F4, Fns.addP, Fns.add, pCmpT, hx, hy]
  by_cases hf : fewB D = true
  · generalize hR : srt D = R at *
    repeat' (first
      | refine WP.t ?_ | refine WP.k ?_ | refine WP.e ?_ | refine Qn ?_ | refine Qr ?_ | refine Qe ?_ | refine Bn ?_ | refine Br ?_ | refine Be ?_ | refine Bx (by decide) ?_
      | (refine RS.nl ?_; refine hk _ _ ?_; clear hk k)
      | (refine RS.st fun A B hA hB => ?_; simp [h10, h16, h18, hf, aunop, onW_t, onW_f, onV_s]; first | (refine hA _ _ _ ?_ ?_; (focus (first | (simp [h10, h16, h18, hf, aunop]; done) | (simp [h10, h16, h18, hf, aunop]; omega))); clear hA hB A B) | (refine hB ?_; clear hA hB A B))
      | (refine RQ.nl ?_; refine hk _ _ ?_; clear hk k)
      | (refine RW.nl ?_; refine hk _ _ ?_; clear hk k)
      | (refine RW.st fun A B hA hB => ?_; simp [h10, h16, h18, hf, aunop, onW_t, onW_f, onV_s]; first | (refine hA _ _ _ ?_ (by first | exact .inl (by decide) | exact .inr (.inl rfl) | exact .inr (.inr rfl)) (by first | exact .inl (by decide) | exact .inr (.inl (by decide)) | exact .inr (.inr fun s2 => by simp [h10, h16, h18, hf, aunop])) ?_; (focus (first | (simp [h10, h16, h18, hf, aunop]; done) | (simp [h10, h16, h18, hf, aunop]; omega))); clear hA hB A B) | (refine hB ?_; clear hA hB A B))
      | (refine RQ.st fun A B hA hB => ?_; simp [h10, h16, h18, hf, aunop, onW_t, onW_f, onV_s]; first | (refine hA _ _ _ ?_ (by first | exact .inl rfl | exact .inr (by decide)) ?_; (focus (first | (simp [h10, h16, h18, hf, aunop]; done) | (simp [h10, h16, h18, hf, aunop]; omega))); clear hA hB A B) | (refine hB ?_; clear hA hB A B))
      | refine WP.sr fun k hk => ?_ | refine WP.r fun k hk => ?_ | refine WP.sd _ rfl fun k hk => ?_ | refine WP.d _ rfl fun k hk => ?_
      | (refine WP.cc fun A B hA hB => ?_; simp [h10, h16, h18, hf, aunop, onB_t, onB_f]; first | (refine hA ?_; clear hA hB A B) | (refine hB ?_; clear hA hB A B) | (refine onB_if (fun h => hA ?_) (fun h => hB ?_) <;> clear hA hB A B))
      | refine WP.q ?_ | refine WP.b ?_)
    refine WP_loop (fun n T s' => ∃ i : Nat, n = R.length + 1 - i ∧ s' = s ∧ 1 ≤ i ∧ i ≤ R.length + 1 ∧ T.get 0 = .sl (encD D) ∧ T.get 1 = .int .u8 u ∧ T.get 5 = .bool true ∧ T.get 6 = .sl (encD R) ∧ T.get 7 = .int .i64 i) R.length ⟨1, by omega, rfl, by omega, by omega, by simp, by simp, by simp, by simp, by simp⟩ ?_
    rintro n T s' ⟨i, hn, rfl, hi1, hiR, g0, g1, g5, g6, g7⟩
    by_cases hlt : i < R.length
    · obtain ⟨c, rfl⟩ : ∃ c, i = c + 1 := ⟨i - 1, by omega⟩
      have hlti : (c : Int) + 1 < (R.length : Int) := by omega
      have hc1 : c < R.length := by omega
      have hx := encD_get hlt
      have hy := encD_get hc1
      have ox := oks _ (List.getElem_mem hlt)
      have oy := oks _ (List.getElem_mem hc1)
      have hcm := hrise c _ _ (List.getElem?_eq_getElem hc1) (List.getElem?_eq_getElem hlt)
      generalize R[c + 1] = x at *
      generalize R[c] = y at *
      have rwx : Rw x = [.sl (x.map V.cs)] := rfl
      have rwy : Rw y = [.sl (y.map V.cs)] := rfl
      have hcc := fun s => hcmp y x s oy ox
      have w4 : IntKind.i64.wrap ((c : Int) + 1 - 1) = (c : Int) := by rw [Int.add_sub_cancel]; exact wrap64 (by omega) (by omega)
      have w4' : IntKind.i64.wrap (c : Int) = (c : Int) := wrap64 (by omega) (by omega)
      have w5 : IntKind.i64.wrap ((c : Int) + 1 + 1) = (c : Int) + 1 + 1 := wrap64 (by omega) (by omega)
      have p1 : 0 ≤ (c : Int) + 1 := by omega
      have p3 : ((c : Int) + 1).toNat = c + 1 := by omega
      have p5 : (c : Int) < (R.length : Int) := by omega
      repeat' (first
        | refine WP.t ?_ | refine WP.k ?_ | refine WP.e ?_ | refine Qn ?_ | refine Qr ?_ | refine Qe ?_ | refine Bn ?_ | refine Br ?_ | refine Be ?_ | refine Bx (by decide) ?_
        | (refine RS.nl ?_; refine hk _ _ ?_; clear hk k)
        | (refine RS.st fun A B hA hB => ?_; simp [g0, g1, g5, g6, g7, abuiltin, alenOk, alen, hlti, hx, hy, rwx, rwy, hcc, hcm, w4, w4', w5, p1, p3, p5, ti36, ti22, elemOfT, aindex, onW_t, onW_f, onV_s]; first | (refine hA _ _ _ ?_ ?_; (focus (first | (simp [g0, g1, g5, g6, g7, abuiltin, alenOk, alen, hlti, hx, hy, rwx, rwy, hcc, hcm, w4, w4', w5, p1, p3, p5, ti36, ti22, elemOfT, aindex]; done) | (simp [g0, g1, g5, g6, g7, abuiltin, alenOk, alen, hlti, hx, hy, rwx, rwy, hcc, hcm, w4, w4', w5, p1, p3, p5, ti36, ti22, elemOfT, aindex]; omega))); clear hA hB A B) | (refine hB ?_; clear hA hB A B))
        | (refine RQ.nl ?_; refine hk _ _ ?_; clear hk k)
        | (refine RW.nl ?_; refine hk _ _ ?_; clear hk k)
        | (refine RW.st fun A B hA hB => ?_; simp [g0, g1, g5, g6, g7, abuiltin, alenOk, alen, hlti, hx, hy, rwx, rwy, hcc, hcm, w4, w4', w5, p1, p3, p5, ti36, ti22, elemOfT, aindex, onW_t, onW_f, onV_s]; first | (refine hA _ _ _ ?_ (by first | exact .inl (by decide) | exact .inr (.inl rfl) | exact .inr (.inr rfl)) (by first | exact .inl (by decide) | exact .inr (.inl (by decide)) | exact .inr (.inr fun s2 => by simp [g0, g1, g5, g6, g7, abuiltin, alenOk, alen, hlti, hx, hy, rwx, rwy, hcc, hcm, w4, w4', w5, p1, p3, p5, ti36, ti22, elemOfT, aindex])) ?_; (focus (first | (simp [g0, g1, g5, g6, g7, abuiltin, alenOk, alen, hlti, hx, hy, rwx, rwy, hcc, hcm, w4, w4', w5, p1, p3, p5, ti36, ti22, elemOfT, aindex]; done) | (simp [g0, g1, g5, g6, g7, abuiltin, alenOk, alen, hlti, hx, hy, rwx, rwy, hcc, hcm, w4, w4', w5, p1, p3, p5, ti36, ti22, elemOfT, aindex]; omega))); clear hA hB A B) | (refine hB ?_; clear hA hB A B))
        | (refine RQ.st fun A B hA hB => ?_; simp [g0, g1, g5, g6, g7, abuiltin, alenOk, alen, hlti, hx, hy, rwx, rwy, hcc, hcm, w4, w4', w5, p1, p3, p5, ti36, ti22, elemOfT, aindex, onW_t, onW_f, onV_s]; first | (refine hA _ _ _ ?_ (by first | exact .inl rfl | exact .inr (by decide)) ?_; (focus (first | (simp [g0, g1, g5, g6, g7, abuiltin, alenOk, alen, hlti, hx, hy, rwx, rwy, hcc, hcm, w4, w4', w5, p1, p3, p5, ti36, ti22, elemOfT, aindex]; done) | (simp [g0, g1, g5, g6, g7, abuiltin, alenOk, alen, hlti, hx, hy, rwx, rwy, hcc, hcm, w4, w4', w5, p1, p3, p5, ti36, ti22, elemOfT, aindex]; omega))); clear hA hB A B) | (refine hB ?_; clear hA hB A B))
        | refine WP.sr fun k hk => ?_ | refine WP.r fun k hk => ?_ | refine WP.sd _ rfl fun k hk => ?_ | refine WP.d _ rfl fun k hk => ?_
        | (refine WP.cc fun A B hA hB => ?_; simp [g0, g1, g5, g6, g7, abuiltin, alenOk, alen, hlti, hx, hy, rwx, rwy, hcc, hcm, w4, w4', w5, p1, p3, p5, ti36, ti22, elemOfT, aindex, onB_t, onB_f]; first | (refine hA ?_; clear hA hB A B) | (refine hB ?_; clear hA hB A B) | (refine onB_if (fun h => hA ?_) (fun h => hB ?_) <;> clear hA hB A B))
        | refine WP.q ?_ | refine WP.b ?_)
      exact ⟨R.length + 1 - (c + 1 + 1), by omega, c + 1 + 1, rfl, rfl, by omega, by omega, by simp [g0], by simp [g1], by simp [g5], by simp [g6], by simp [w5]⟩
    · have hlti : ¬ (i : Int) < (R.length : Int) := by omega
      by_cases hD0 : D = []
      · subst hD0
        have hR0 : R = [] := List.eq_nil_of_length_eq_zero (by simp at hsl; simpa using hsl)
        subst hR0
        repeat' (first
          | refine WP.t ?_ | refine WP.k ?_ | refine WP.e ?_ | refine Qn ?_ | refine Qr ?_ | refine Qe ?_ | refine Bn ?_ | refine Br ?_ | refine Be ?_ | refine Bx (by decide) ?_
          | (refine RS.nl ?_; refine hk _ _ ?_; clear hk k)
          | (refine RS.st fun A B hA hB => ?_; simp [g0, g1, g5, g6, g7, abuiltin, alenOk, alen, hlti, ti36, onW_t, onW_f, onV_s]; first | (refine hA _ _ _ ?_ ?_; (focus (first | (simp [g0, g1, g5, g6, g7, abuiltin, alenOk, alen, hlti, ti36]; done) | (simp [g0, g1, g5, g6, g7, abuiltin, alenOk, alen, hlti, ti36]; omega))); clear hA hB A B) | (refine hB ?_; clear hA hB A B))
          | (refine RQ.nl ?_; refine hk _ _ ?_; clear hk k)
          | (refine RW.nl ?_; refine hk _ _ ?_; clear hk k)
          | (refine RW.st fun A B hA hB => ?_; simp [g0, g1, g5, g6, g7, abuiltin, alenOk, alen, hlti, ti36, onW_t, onW_f, onV_s]; first | (refine hA _ _ _ ?_ (by first | exact .inl (by decide) | exact .inr (.inl rfl) | exact .inr (.inr rfl)) (by first | exact .inl (by decide) | exact .inr (.inl (by decide)) | exact .inr (.inr fun s2 => by simp [g0, g1, g5, g6, g7, abuiltin, alenOk, alen, hlti, ti36])) ?_; (focus (first | (simp [g0, g1, g5, g6, g7, abuiltin, alenOk, alen, hlti, ti36]; done) | (simp [g0, g1, g5, g6, g7, abuiltin, alenOk, alen, hlti, ti36]; omega))); clear hA hB A B) | (refine hB ?_; clear hA hB A B))
          | (refine RQ.st fun A B hA hB => ?_; simp [g0, g1, g5, g6, g7, abuiltin, alenOk, alen, hlti, ti36, onW_t, onW_f, onV_s]; first | (refine hA _ _ _ ?_ (by first | exact .inl rfl | exact .inr (by decide)) ?_; (focus (first | (simp [g0, g1, g5, g6, g7, abuiltin, alenOk, alen, hlti, ti36]; done) | (simp [g0, g1, g5, g6, g7, abuiltin, alenOk, alen, hlti, ti36]; omega))); clear hA hB A B) | (refine hB ?_; clear hA hB A B))
          | refine WP.sr fun k hk => ?_ | refine WP.r fun k hk => ?_ | refine WP.sd _ rfl fun k hk => ?_ | refine WP.d _ rfl fun k hk => ?_
          | (refine WP.cc fun A B hA hB => ?_; simp [g0, g1, g5, g6, g7, abuiltin, alenOk, alen, hlti, ti36, onB_t, onB_f]; first | (refine hA ?_; clear hA hB A B) | (refine hB ?_; clear hA hB A B) | (refine onB_if (fun h => hA ?_) (fun h => hB ?_) <;> clear hA hB A B))
          | refine WP.q ?_ | refine WP.b ?_)
        refine WP_loop (fun n T s2 => s2 = s' ∧ T.get 0 = .sl [] ∧ T.get 5 = .bool true ∧ T.get 6 = .sl [] ∧ T.get 8 = .bool true ∧ T.get 9 = .int .i64 0) 0 ⟨rfl, by simp [g0, encD], by simp [g5], by simp [g6, encD], by simp, by simp⟩ ?_
        rintro n2 T2 s2 ⟨rfl, k0, k5, k6, k8, k9⟩
        have e0 : encD [] = [] := rfl
        rw [e0] at h18b h17
        repeat' (first
          | refine WP.t ?_ | refine WP.k ?_ | refine WP.e ?_ | refine Qn ?_ | refine Qr ?_ | refine Qe ?_ | refine Bn ?_ | refine Br ?_ | refine Be ?_ | refine Bx (by decide) ?_
          | (refine RS.nl ?_; refine hk _ _ ?_; clear hk k)
          | (refine RS.st fun A B hA hB => ?_; simp [k0, k5, k6, k8, k9, abuiltin, alenOk, alen, ti36, h18b, h17, onW_t, onW_f, onV_s]; first | (refine hA _ _ _ ?_ ?_; (focus (first | (simp [k0, k5, k6, k8, k9, abuiltin, alenOk, alen, ti36, h18b, h17]; done) | (simp [k0, k5, k6, k8, k9, abuiltin, alenOk, alen, ti36, h18b, h17]; omega))); clear hA hB A B) | (refine hB ?_; clear hA hB A B))
          | (refine RQ.nl ?_; refine hk _ _ ?_; clear hk k)
          | (refine RW.nl ?_; refine hk _ _ ?_; clear hk k)
          | (refine RW.st fun A B hA hB => ?_; simp [k0, k5, k6, k8, k9, abuiltin, alenOk, alen, ti36, h18b, h17, onW_t, onW_f, onV_s]; first | (refine hA _ _ _ ?_ (by first | exact .inl (by decide) | exact .inr (.inl rfl) | exact .inr (.inr rfl)) (by first | exact .inl (by decide) | exact .inr (.inl (by decide)) | exact .inr (.inr fun s2 => by simp [k0, k5, k6, k8, k9, abuiltin, alenOk, alen, ti36, h18b, h17])) ?_; (focus (first | (simp [k0, k5, k6, k8, k9, abuiltin, alenOk, alen, ti36, h18b, h17]; done) | (simp [k0, k5, k6, k8, k9, abuiltin, alenOk, alen, ti36, h18b, h17]; omega))); clear hA hB A B) | (refine hB ?_; clear hA hB A B))
          | (refine RQ.st fun A B hA hB => ?_; simp [k0, k5, k6, k8, k9, abuiltin, alenOk, alen, ti36, h18b, h17, onW_t, onW_f, onV_s]; first | (refine hA _ _ _ ?_ (by first | exact .inl rfl | exact .inr (by decide)) ?_; (focus (first | (simp [k0, k5, k6, k8, k9, abuiltin, alenOk, alen, ti36, h18b, h17]; done) | (simp [k0, k5, k6, k8, k9, abuiltin, alenOk, alen, ti36, h18b, h17]; omega))); clear hA hB A B) | (refine hB ?_; clear hA hB A B))
          | refine WP.sr fun k hk => ?_ | refine WP.r fun k hk => ?_ | refine WP.sd _ rfl fun k hk => ?_ | refine WP.d _ rfl fun k hk => ?_
          | (refine WP.cc fun A B hA hB => ?_; simp [k0, k5, k6, k8, k9, abuiltin, alenOk, alen, ti36, h18b, h17, onB_t, onB_f]; first | (refine hA ?_; clear hA hB A B) | (refine hB ?_; clear hA hB A B) | (refine onB_if (fun h => hA ?_) (fun h => hB ?_) <;> clear hA hB A B))
          | refine WP.q ?_ | refine WP.b ?_)
        exact ⟨.inr rfl, rfl, by simp⟩
      · have hlp : 0 < D.length := List.length_pos_iff.2 hD0
        have hlp0 : (D.length : Int) ≠ 0 := by omega
        have hlp1 : 0 < (D.length : Int) := by omega
        have hlp2 : ((D.length : Int) == 0) = false := by rw [beq_eq_false_iff_ne]; exact hlp0
        obtain ⟨q, hq⟩ : ∃ q, q = u % D.length := ⟨_, rfl⟩
        have hqD : q < D.length := by rw [hq]; exact Nat.mod_lt _ hlp
        have hrem : (u : Int).tmod (D.length : Int) = (q : Int) := by rw [hq, Int.tmod_eq_emod_of_nonneg (by omega)]; omega
        have hqi : (q : Int) < (D.length : Int) := by omega
        have wu : IntKind.i64.wrap (u : Int) = (u : Int) := wrap64 (by omega) (by omega)
        have hz := encD_get hqD
        have oz := hok _ (List.getElem_mem hqD)
        obtain ⟨z0, hz0, hzc⟩ := hin _ (List.getElem_mem hqD)
        generalize D[q] = z at *
        have rwz : Rw z = [.sl (z.map V.cs)] := rfl
        repeat' (first
          | refine WP.t ?_ | refine WP.k ?_ | refine WP.e ?_ | refine Qn ?_ | refine Qr ?_ | refine Qe ?_ | refine Bn ?_ | refine Br ?_ | refine Be ?_ | refine Bx (by decide) ?_
          | (refine RS.nl ?_; refine hk _ _ ?_; clear hk k)
          | (refine RS.st fun A B hA hB => ?_; simp [g0, g1, g5, g6, g7, abuiltin, alenOk, alen, hlti, ti36, hlp2, onW_t, onW_f, onV_s]; first | (refine hA _ _ _ ?_ ?_; (focus (first | (simp [g0, g1, g5, g6, g7, abuiltin, alenOk, alen, hlti, ti36, hlp2]; done) | (simp [g0, g1, g5, g6, g7, abuiltin, alenOk, alen, hlti, ti36, hlp2]; omega))); clear hA hB A B) | (refine hB ?_; clear hA hB A B))
          | (refine RQ.nl ?_; refine hk _ _ ?_; clear hk k)
          | (refine RW.nl ?_; refine hk _ _ ?_; clear hk k)
          | (refine RW.st fun A B hA hB => ?_; simp [g0, g1, g5, g6, g7, abuiltin, alenOk, alen, hlti, ti36, hlp2, onW_t, onW_f, onV_s]; first | (refine hA _ _ _ ?_ (by first | exact .inl (by decide) | exact .inr (.inl rfl) | exact .inr (.inr rfl)) (by first | exact .inl (by decide) | exact .inr (.inl (by decide)) | exact .inr (.inr fun s2 => by simp [g0, g1, g5, g6, g7, abuiltin, alenOk, alen, hlti, ti36, hlp2])) ?_; (focus (first | (simp [g0, g1, g5, g6, g7, abuiltin, alenOk, alen, hlti, ti36, hlp2]; done) | (simp [g0, g1, g5, g6, g7, abuiltin, alenOk, alen, hlti, ti36, hlp2]; omega))); clear hA hB A B) | (refine hB ?_; clear hA hB A B))
          | (refine RQ.st fun A B hA hB => ?_; simp [g0, g1, g5, g6, g7, abuiltin, alenOk, alen, hlti, ti36, hlp2, onW_t, onW_f, onV_s]; first | (refine hA _ _ _ ?_ (by first | exact .inl rfl | exact .inr (by decide)) ?_; (focus (first | (simp [g0, g1, g5, g6, g7, abuiltin, alenOk, alen, hlti, ti36, hlp2]; done) | (simp [g0, g1, g5, g6, g7, abuiltin, alenOk, alen, hlti, ti36, hlp2]; omega))); clear hA hB A B) | (refine hB ?_; clear hA hB A B))
          | refine WP.sr fun k hk => ?_ | refine WP.r fun k hk => ?_ | refine WP.sd _ rfl fun k hk => ?_ | refine WP.d _ rfl fun k hk => ?_
          | (refine WP.cc fun A B hA hB => ?_; simp [g0, g1, g5, g6, g7, abuiltin, alenOk, alen, hlti, ti36, hlp2, onB_t, onB_f]; first | (refine hA ?_; clear hA hB A B) | (refine hB ?_; clear hA hB A B) | (refine onB_if (fun h => hA ?_) (fun h => hB ?_) <;> clear hA hB A B))
          | refine WP.q ?_ | refine WP.b ?_)
        refine WP_loop (fun n T s2 => ∃ j : Nat, n = R.length - j ∧ s2 = s' ∧ j ≤ R.length ∧ T.get 0 = .sl (encD D) ∧ T.get 1 = .int .u8 u ∧ T.get 5 = .bool true ∧ T.get 6 = .sl (encD R) ∧ T.get 8 = .bool ((R.take j).any fun y => cmpT y z == 0) ∧ T.get 9 = .int .i64 j) R.length ⟨0, rfl, rfl, Nat.zero_le _, by simp [g0], by simp [g1], by simp [g5], by simp [g6], by simp, by simp⟩ ?_
        rintro n2 T2 s2 ⟨j, hn2, rfl, hjR, k0, k1, k5, k6, k8, k9⟩
        by_cases hj : j < R.length
        · have hji : (j : Int) < (R.length : Int) := by omega
          have hx := encD_get hj
          have ox := oks _ (List.getElem_mem hj)
          have htk : R.take (j + 1) = R.take j ++ [R[j]] := by rw [List.take_add_one, List.getElem?_eq_getElem hj]; rfl
          generalize R[j] = x at *
          have rwx : Rw x = [.sl (x.map V.cs)] := rfl
          have hcc := fun s => hcmp x z s ox oz
          have w5 : IntKind.i64.wrap ((j : Int) + 1) = (j : Int) + 1 := wrap64 (by omega) (by omega)
          have hany : ((R.take (j + 1)).any fun y => cmpT y z == 0) = (((R.take j).any fun y => cmpT y z == 0) || (cmpT x z == 0)) := by rw [htk]; simp
          cases hb : (R.take j).any fun y => cmpT y z == 0
          · rw [hb] at k8
            rw [hb, Bool.false_or] at hany
            repeat' (first
              | refine WP.t ?_ | refine WP.k ?_ | refine WP.e ?_ | refine Qn ?_ | refine Qr ?_ | refine Qe ?_ | refine Bn ?_ | refine Br ?_ | refine Be ?_ | refine Bx (by decide) ?_
              | (refine RS.nl ?_; refine hk _ _ ?_; clear hk k)
              | (refine RS.st fun A B hA hB => ?_; simp [k0, k1, k5, k6, k8, k9, abuiltin, alenOk, alen, hji, hlp, hx, hz, rwx, rwz, hcc, hD0, hlp0, hlp1, hrem, hqi, wu, ti36, ti22, ti5, ti3, elemOfT, aindex, aconv, aconvert, w5, onW_t, onW_f, onV_s]; first | (refine hA _ _ _ ?_ ?_; (focus (first | (simp [k0, k1, k5, k6, k8, k9, abuiltin, alenOk, alen, hji, hlp, hx, hz, rwx, rwz, hcc, hD0, hlp0, hlp1, hrem, hqi, wu, ti36, ti22, ti5, ti3, elemOfT, aindex, aconv, aconvert, w5]; done) | (simp [k0, k1, k5, k6, k8, k9, abuiltin, alenOk, alen, hji, hlp, hx, hz, rwx, rwz, hcc, hD0, hlp0, hlp1, hrem, hqi, wu, ti36, ti22, ti5, ti3, elemOfT, aindex, aconv, aconvert, w5]; omega))); clear hA hB A B) | (refine hB ?_; clear hA hB A B))
              | (refine RQ.nl ?_; refine hk _ _ ?_; clear hk k)
              | (refine RW.nl ?_; refine hk _ _ ?_; clear hk k)
              | (refine RW.st fun A B hA hB => ?_; simp [k0, k1, k5, k6, k8, k9, abuiltin, alenOk, alen, hji, hlp, hx, hz, rwx, rwz, hcc, hD0, hlp0, hlp1, hrem, hqi, wu, ti36, ti22, ti5, ti3, elemOfT, aindex, aconv, aconvert, w5, onW_t, onW_f, onV_s]; first | (refine hA _ _ _ ?_ (by first | exact .inl (by decide) | exact .inr (.inl rfl) | exact .inr (.inr rfl)) (by first | exact .inl (by decide) | exact .inr (.inl (by decide)) | exact .inr (.inr fun s2 => by simp [k0, k1, k5, k6, k8, k9, abuiltin, alenOk, alen, hji, hlp, hx, hz, rwx, rwz, hcc, hD0, hlp0, hlp1, hrem, hqi, wu, ti36, ti22, ti5, ti3, elemOfT, aindex, aconv, aconvert, w5])) ?_; (focus (first | (simp [k0, k1, k5, k6, k8, k9, abuiltin, alenOk, alen, hji, hlp, hx, hz, rwx, rwz, hcc, hD0, hlp0, hlp1, hrem, hqi, wu, ti36, ti22, ti5, ti3, elemOfT, aindex, aconv, aconvert, w5]; done) | (simp [k0, k1, k5, k6, k8, k9, abuiltin, alenOk, alen, hji, hlp, hx, hz, rwx, rwz, hcc, hD0, hlp0, hlp1, hrem, hqi, wu, ti36, ti22, ti5, ti3, elemOfT, aindex, aconv, aconvert, w5]; omega))); clear hA hB A B) | (refine hB ?_; clear hA hB A B))
              | (refine RQ.st fun A B hA hB => ?_; simp [k0, k1, k5, k6, k8, k9, abuiltin, alenOk, alen, hji, hlp, hx, hz, rwx, rwz, hcc, hD0, hlp0, hlp1, hrem, hqi, wu, ti36, ti22, ti5, ti3, elemOfT, aindex, aconv, aconvert, w5, onW_t, onW_f, onV_s]; first | (refine hA _ _ _ ?_ (by first | exact .inl rfl | exact .inr (by decide)) ?_; (focus (first | (simp [k0, k1, k5, k6, k8, k9, abuiltin, alenOk, alen, hji, hlp, hx, hz, rwx, rwz, hcc, hD0, hlp0, hlp1, hrem, hqi, wu, ti36, ti22, ti5, ti3, elemOfT, aindex, aconv, aconvert, w5]; done) | (simp [k0, k1, k5, k6, k8, k9, abuiltin, alenOk, alen, hji, hlp, hx, hz, rwx, rwz, hcc, hD0, hlp0, hlp1, hrem, hqi, wu, ti36, ti22, ti5, ti3, elemOfT, aindex, aconv, aconvert, w5]; omega))); clear hA hB A B) | (refine hB ?_; clear hA hB A B))
              | refine WP.sr fun k hk => ?_ | refine WP.r fun k hk => ?_ | refine WP.sd _ rfl fun k hk => ?_ | refine WP.d _ rfl fun k hk => ?_
              | (refine WP.cc fun A B hA hB => ?_; simp [k0, k1, k5, k6, k8, k9, abuiltin, alenOk, alen, hji, hlp, hx, hz, rwx, rwz, hcc, hD0, hlp0, hlp1, hrem, hqi, wu, ti36, ti22, ti5, ti3, elemOfT, aindex, aconv, aconvert, w5, onB_t, onB_f]; first | (refine hA ?_; clear hA hB A B) | (refine hB ?_; clear hA hB A B) | (refine onB_if (fun h => hA ?_) (fun h => hB ?_) <;> clear hA hB A B))
              | refine WP.q ?_ | refine WP.b ?_)
            exact ⟨R.length - (j + 1), by omega, j + 1, rfl, rfl, by omega, by simp [k0], by simp [k1], by simp [k5], by simp [k6], by rw [hany]; simp, by simp [w5]⟩
          · rw [hb] at k8
            rw [hb, Bool.true_or] at hany
            repeat' (first
              | refine WP.t ?_ | refine WP.k ?_ | refine WP.e ?_ | refine Qn ?_ | refine Qr ?_ | refine Qe ?_ | refine Bn ?_ | refine Br ?_ | refine Be ?_ | refine Bx (by decide) ?_
              | (refine RS.nl ?_; refine hk _ _ ?_; clear hk k)
              | (refine RS.st fun A B hA hB => ?_; simp [k0, k1, k5, k6, k8, k9, abuiltin, alenOk, alen, hji, hlp, hx, hz, rwx, rwz, hcc, hD0, hlp0, hlp1, hrem, hqi, wu, ti36, ti22, ti5, ti3, elemOfT, aindex, aconv, aconvert, w5, onW_t, onW_f, onV_s]; first | (refine hA _ _ _ ?_ ?_; (focus (first | (simp [k0, k1, k5, k6, k8, k9, abuiltin, alenOk, alen, hji, hlp, hx, hz, rwx, rwz, hcc, hD0, hlp0, hlp1, hrem, hqi, wu, ti36, ti22, ti5, ti3, elemOfT, aindex, aconv, aconvert, w5]; done) | (simp [k0, k1, k5, k6, k8, k9, abuiltin, alenOk, alen, hji, hlp, hx, hz, rwx, rwz, hcc, hD0, hlp0, hlp1, hrem, hqi, wu, ti36, ti22, ti5, ti3, elemOfT, aindex, aconv, aconvert, w5]; omega))); clear hA hB A B) | (refine hB ?_; clear hA hB A B))
              | (refine RQ.nl ?_; refine hk _ _ ?_; clear hk k)
              | (refine RW.nl ?_; refine hk _ _ ?_; clear hk k)
              | (refine RW.st fun A B hA hB => ?_; simp [k0, k1, k5, k6, k8, k9, abuiltin, alenOk, alen, hji, hlp, hx, hz, rwx, rwz, hcc, hD0, hlp0, hlp1, hrem, hqi, wu, ti36, ti22, ti5, ti3, elemOfT, aindex, aconv, aconvert, w5, onW_t, onW_f, onV_s]; first | (refine hA _ _ _ ?_ (by first | exact .inl (by decide) | exact .inr (.inl rfl) | exact .inr (.inr rfl)) (by first | exact .inl (by decide) | exact .inr (.inl (by decide)) | exact .inr (.inr fun s2 => by simp [k0, k1, k5, k6, k8, k9, abuiltin, alenOk, alen, hji, hlp, hx, hz, rwx, rwz, hcc, hD0, hlp0, hlp1, hrem, hqi, wu, ti36, ti22, ti5, ti3, elemOfT, aindex, aconv, aconvert, w5])) ?_; (focus (first | (simp [k0, k1, k5, k6, k8, k9, abuiltin, alenOk, alen, hji, hlp, hx, hz, rwx, rwz, hcc, hD0, hlp0, hlp1, hrem, hqi, wu, ti36, ti22, ti5, ti3, elemOfT, aindex, aconv, aconvert, w5]; done) | (simp [k0, k1, k5, k6, k8, k9, abuiltin, alenOk, alen, hji, hlp, hx, hz, rwx, rwz, hcc, hD0, hlp0, hlp1, hrem, hqi, wu, ti36, ti22, ti5, ti3, elemOfT, aindex, aconv, aconvert, w5]; omega))); clear hA hB A B) | (refine hB ?_; clear hA hB A B))
              | (refine RQ.st fun A B hA hB => ?_; simp [k0, k1, k5, k6, k8, k9, abuiltin, alenOk, alen, hji, hlp, hx, hz, rwx, rwz, hcc, hD0, hlp0, hlp1, hrem, hqi, wu, ti36, ti22, ti5, ti3, elemOfT, aindex, aconv, aconvert, w5, onW_t, onW_f, onV_s]; first | (refine hA _ _ _ ?_ (by first | exact .inl rfl | exact .inr (by decide)) ?_; (focus (first | (simp [k0, k1, k5, k6, k8, k9, abuiltin, alenOk, alen, hji, hlp, hx, hz, rwx, rwz, hcc, hD0, hlp0, hlp1, hrem, hqi, wu, ti36, ti22, ti5, ti3, elemOfT, aindex, aconv, aconvert, w5]; done) | (simp [k0, k1, k5, k6, k8, k9, abuiltin, alenOk, alen, hji, hlp, hx, hz, rwx, rwz, hcc, hD0, hlp0, hlp1, hrem, hqi, wu, ti36, ti22, ti5, ti3, elemOfT, aindex, aconv, aconvert, w5]; omega))); clear hA hB A B) | (refine hB ?_; clear hA hB A B))
              | refine WP.sr fun k hk => ?_ | refine WP.r fun k hk => ?_ | refine WP.sd _ rfl fun k hk => ?_ | refine WP.d _ rfl fun k hk => ?_
              | (refine WP.cc fun A B hA hB => ?_; simp [k0, k1, k5, k6, k8, k9, abuiltin, alenOk, alen, hji, hlp, hx, hz, rwx, rwz, hcc, hD0, hlp0, hlp1, hrem, hqi, wu, ti36, ti22, ti5, ti3, elemOfT, aindex, aconv, aconvert, w5, onB_t, onB_f]; first | (refine hA ?_; clear hA hB A B) | (refine hB ?_; clear hA hB A B) | (refine onB_if (fun h => hA ?_) (fun h => hB ?_) <;> clear hA hB A B))
              | refine WP.q ?_ | refine WP.b ?_)
            exact ⟨R.length - (j + 1), by omega, j + 1, rfl, rfl, by omega, by simp [k0], by simp [k1], by simp [k5], by simp [k6], by rw [hany]; simp, by simp [w5]⟩
        · have hji : ¬ (j : Int) < (R.length : Int) := by omega
          have hall : ((R.take j).any fun y => cmpT y z == 0) = true := by
            rw [List.take_of_length_le (by omega), List.any_eq_true]
            exact ⟨z0, hz0, by simp [hzc]⟩
          rw [hall] at k8
          have hsl2 : (R.length : Int) ≤ (D.length : Int) := by omega
          repeat' (first
            | refine WP.t ?_ | refine WP.k ?_ | refine WP.e ?_ | refine Qn ?_ | refine Qr ?_ | refine Qe ?_ | refine Bn ?_ | refine Br ?_ | refine Be ?_ | refine Bx (by decide) ?_
            | (refine RS.nl ?_; refine hk _ _ ?_; clear hk k)
            | (refine RS.st fun A B hA hB => ?_; simp [k0, k1, k5, k6, k8, k9, abuiltin, alenOk, alen, hji, hlp, hsl, hsl2, ti36, h18b, h17, onW_t, onW_f, onV_s]; first | (refine hA _ _ _ ?_ ?_; (focus (first | (simp [k0, k1, k5, k6, k8, k9, abuiltin, alenOk, alen, hji, hlp, hsl, hsl2, ti36, h18b, h17]; done) | (simp [k0, k1, k5, k6, k8, k9, abuiltin, alenOk, alen, hji, hlp, hsl, hsl2, ti36, h18b, h17]; omega))); clear hA hB A B) | (refine hB ?_; clear hA hB A B))
            | (refine RQ.nl ?_; refine hk _ _ ?_; clear hk k)
            | (refine RW.nl ?_; refine hk _ _ ?_; clear hk k)
            | (refine RW.st fun A B hA hB => ?_; simp [k0, k1, k5, k6, k8, k9, abuiltin, alenOk, alen, hji, hlp, hsl, hsl2, ti36, h18b, h17, onW_t, onW_f, onV_s]; first | (refine hA _ _ _ ?_ (by first | exact .inl (by decide) | exact .inr (.inl rfl) | exact .inr (.inr rfl)) (by first | exact .inl (by decide) | exact .inr (.inl (by decide)) | exact .inr (.inr fun s2 => by simp [k0, k1, k5, k6, k8, k9, abuiltin, alenOk, alen, hji, hlp, hsl, hsl2, ti36, h18b, h17])) ?_; (focus (first | (simp [k0, k1, k5, k6, k8, k9, abuiltin, alenOk, alen, hji, hlp, hsl, hsl2, ti36, h18b, h17]; done) | (simp [k0, k1, k5, k6, k8, k9, abuiltin, alenOk, alen, hji, hlp, hsl, hsl2, ti36, h18b, h17]; omega))); clear hA hB A B) | (refine hB ?_; clear hA hB A B))
            | (refine RQ.st fun A B hA hB => ?_; simp [k0, k1, k5, k6, k8, k9, abuiltin, alenOk, alen, hji, hlp, hsl, hsl2, ti36, h18b, h17, onW_t, onW_f, onV_s]; first | (refine hA _ _ _ ?_ (by first | exact .inl rfl | exact .inr (by decide)) ?_; (focus (first | (simp [k0, k1, k5, k6, k8, k9, abuiltin, alenOk, alen, hji, hlp, hsl, hsl2, ti36, h18b, h17]; done) | (simp [k0, k1, k5, k6, k8, k9, abuiltin, alenOk, alen, hji, hlp, hsl, hsl2, ti36, h18b, h17]; omega))); clear hA hB A B) | (refine hB ?_; clear hA hB A B))
            | refine WP.sr fun k hk => ?_ | refine WP.r fun k hk => ?_ | refine WP.sd _ rfl fun k hk => ?_ | refine WP.d _ rfl fun k hk => ?_
            | (refine WP.cc fun A B hA hB => ?_; simp [k0, k1, k5, k6, k8, k9, abuiltin, alenOk, alen, hji, hlp, hsl, hsl2, ti36, h18b, h17, onB_t, onB_f]; first | (refine hA ?_; clear hA hB A B) | (refine hB ?_; clear hA hB A B) | (refine onB_if (fun h => hA ?_) (fun h => hB ?_) <;> clear hA hB A B))
            | refine WP.q ?_ | refine WP.b ?_)
          exact ⟨.inr rfl, rfl, by simp⟩
  · have hf : fewB D = false := by simpa using hf
    repeat' (first
      | refine WP.t ?_ | refine WP.k ?_ | refine WP.e ?_ | refine Qn ?_ | refine Qr ?_ | refine Qe ?_ | refine Bn ?_ | refine Br ?_ | refine Be ?_ | refine Bx (by decide) ?_
      | (refine RS.nl ?_; refine hk _ _ ?_; clear hk k)
      | (refine RS.st fun A B hA hB => ?_; simp [h10, h16, hf, aunop, onW_t, onW_f, onV_s]; first | (refine hA _ _ _ ?_ ?_; (focus (first | (simp [h10, h16, hf, aunop]; done) | (simp [h10, h16, hf, aunop]; omega))); clear hA hB A B) | (refine hB ?_; clear hA hB A B))
      | (refine RQ.nl ?_; refine hk _ _ ?_; clear hk k)
      | (refine RW.nl ?_; refine hk _ _ ?_; clear hk k)
      | (refine RW.st fun A B hA hB => ?_; simp [h10, h16, hf, aunop, onW_t, onW_f, onV_s]; first | (refine hA _ _ _ ?_ (by first | exact .inl (by decide) | exact .inr (.inl rfl) | exact .inr (.inr rfl)) (by first | exact .inl (by decide) | exact .inr (.inl (by decide)) | exact .inr (.inr fun s2 => by simp [h10, h16, hf, aunop])) ?_; (focus (first | (simp [h10, h16, hf, aunop]; done) | (simp [h10, h16, hf, aunop]; omega))); clear hA hB A B) | (refine hB ?_; clear hA hB A B))
      | (refine RQ.st fun A B hA hB => ?_; simp [h10, h16, hf, aunop, onW_t, onW_f, onV_s]; first | (refine hA _ _ _ ?_ (by first | exact .inl rfl | exact .inr (by decide)) ?_; (focus (first | (simp [h10, h16, hf, aunop]; done) | (simp [h10, h16, hf, aunop]; omega))); clear hA hB A B) | (refine hB ?_; clear hA hB A B))
      | refine WP.sr fun k hk => ?_ | refine WP.r fun k hk => ?_ | refine WP.sd _ rfl fun k hk => ?_ | refine WP.d _ rfl fun k hk => ?_
      | (refine WP.cc fun A B hA hB => ?_; simp [h10, h16, hf, aunop, onB_t, onB_f]; first | (refine hA ?_; clear hA hB A B) | (refine hB ?_; clear hA hB A B) | (refine onB_if (fun h => hA ?_) (fun h => hB ?_) <;> clear hA hB A B))
      | refine WP.q ?_ | refine WP.b ?_)
    exact ⟨.inr rfl, rfl, by simp⟩
end
end Go.Am
