/- Part of the proof: abstract values over the given model of Go (T11). Conditions: none of its own; see the statement in the seat's Rows text. -/
import Derived.Test.YtnpidlhooilddaaDoorAmT
import Derived.Test.YtnpidlhooilddaaDoorAmFour
set_option linter.unusedSimpArgs false
set_option linter.unusedVariables false
set_option linter.unusedSectionVars false
namespace Go.Am
open Go.Proofs
section
variable {K : Nat} {gw : World} {s : St}
attribute [local simp] RS_cons' RS_nil RQ_nil RQ_cons' awanted xop zOf zrow aop ev T0 Slots.put Slots.set Slots.get awr WOk AV.may ofConst abinop aint isConst St.get_push St.get_put St.live AV.fit AV.cells AV.one fieldOf afieldAddr aload ofCells astore splice May eqres env_ti FinP ares aresL ares1 Fns.addP Fns.add
set_option maxRecDepth 20000 in
set_option maxHeartbeats 4000000 in
theorem ft4 (hK : 0 < K) (hT : Tens gw) (a b c ab ac : List V) (la : a.length ≤ 1048576) (lb : b.length ≤ 1048576) (lc : c.length ≤ 1048576) (ha : okT a = true) (hb : okT b = true) (hab : okT ab = true)
    (eab : ab = a ++ b) (eac : ac = a ++ c)
    (h1 : keyT ab = keyT a ++ keyT b) (h2 : cmpT ab ac = cmpT b c) (h3 : b = [] ∨ cmpT a ab = -1) :
    FT (env K gw) NoW 4 [.sl (a.map V.cs), .sl (b.map V.cs), .sl (c.map V.cs)] s (.bool true) s := by
  have mab : ab.map V.cs = a.map V.cs ++ b.map V.cs := by rw [eab, List.map_append]
  have mac : ac.map V.cs = a.map V.cs ++ c.map V.cs := by rw [eac, List.map_append]
  have kab : ab.length = a.length + b.length := by rw [eab, List.length_append]
  have kac : ac.length = a.length + c.length := by rw [eac, List.length_append]
  clear eab eac
  refine FT.pure (fn := Tryd.f4) (F13_ok hK hT) mixed Tryd.func4 (by kernel_rfl) (by rfl) rfl rfl (by simp) rfl fun μ w => ?_
  have fa : a.length * 32 ≤ 140737488355328 := by omega
  have fb : (a.length + b.length) * 32 ≤ 140737488355328 := by omega
  have fc : (a.length + c.length) * 32 ≤ 140737488355328 := by omega
  refine WP.q ?_
  have hkk : (keyT a).length + (keyT b).length ≤ 9223372036854775807 := by
    simp only [okT, Bool.and_eq_true, decide_eq_true_eq] at hab
    have := hab.2
    rw [h1, List.length_append] at this
    omega
  have w1 : IntKind.i64.wrap (-1) = -1 := wrap64 (by omega) (by omega)
  have la1 : a.length < LIM := by unfold LIM; omega
  have lb1 : b.length < LIM := by unfold LIM; omega
  have lc1 : c.length < LIM := by unfold LIM; omega
  have lab : ab.length < LIM := by unfold LIM; omega
  have lac : ac.length < LIM := by unfold LIM; omega
  rcases h3 with h3 | h3
  · have h4 : ((b.length : Int) == 0) = true := by rw [h3]; rfl
    have h5 : 0 < K := hK
    repeat' (first
      | (refine WP.fz 8 (s.nx + 1 + 1) 3 (a.length + b.length) (true, 34) (ab.map V.cs) ?_ ?_ ?_ ?_ ?_; (focus (simp; done)); (focus (simp [St.get_push, St.get_drop, mab]; done)); (focus (simp [kab]; done)); (focus (simp; omega)))
      | (refine WP.fz 9 (s.nx + 1 + 1 + 1 + 1 + 1) 3 (a.length + c.length) (true, 34) (ac.map V.cs) ?_ ?_ ?_ ?_ ?_; (focus (simp; done)); (focus (simp [St.get_push, St.get_drop, mac]; done)); (focus (simp [kac]; done)); (focus (simp; omega)))
      | refine WP.t ?_ | refine WP.k ?_ | refine WP.e ?_ | refine Qn ?_ | refine Qr ?_ | refine Qe ?_ | refine Bn ?_ | refine Br ?_ | refine Be ?_ | refine Bx (by decide) ?_
      | (refine RS.nl ?_; refine hk _ _ ?_; clear hk k)
      | (refine RS.st fun A B hA hB => ?_; simp [F13, F12, F11, F10, F9, F8, F7, F6, F5, F4, pShown, pCmpT, V.cs, abuildSlice, afill, chunks, abuiltin, alen, alenOk, ard, aappend, isSS, AV.isStr, elemOfT, elemId, ti22, ti34, ti4, fa, fb, fc, St.get_drop, la1, lb1, lc1, lab, lac, ha, hb, hab, h1, h2, hkk, h4, h5, w1, aunop, astrop, aeq, onW_t, onW_f, onV_s]; first | (refine hA _ _ _ ?_ ?_; (focus (first | (simp [F13, F12, F11, F10, F9, F8, F7, F6, F5, F4, pShown, pCmpT, V.cs, abuildSlice, afill, chunks, abuiltin, alen, alenOk, ard, aappend, isSS, AV.isStr, elemOfT, elemId, ti22, ti34, ti4, fa, fb, fc, St.get_drop, la1, lb1, lc1, lab, lac, ha, hb, hab, h1, h2, hkk, h4, h5, w1, aunop, astrop, aeq]; done) | (simp [F13, F12, F11, F10, F9, F8, F7, F6, F5, F4, pShown, pCmpT, V.cs, abuildSlice, afill, chunks, abuiltin, alen, alenOk, ard, aappend, isSS, AV.isStr, elemOfT, elemId, ti22, ti34, ti4, fa, fb, fc, St.get_drop, la1, lb1, lc1, lab, lac, ha, hb, hab, h1, h2, hkk, h4, h5, w1, aunop, astrop, aeq]; omega))); clear hA hB A B) | (refine hB ?_; clear hA hB A B))
      | refine WP.sr fun k hk => ?_ | refine WP.r fun k hk => ?_
      | (refine WP.cc fun A B hA hB => ?_; simp [F13, F12, F11, F10, F9, F8, F7, F6, F5, F4, pShown, pCmpT, V.cs, abuildSlice, afill, chunks, abuiltin, alen, alenOk, ard, aappend, isSS, AV.isStr, elemOfT, elemId, ti22, ti34, ti4, fa, fb, fc, St.get_drop, la1, lb1, lc1, lab, lac, ha, hb, hab, h1, h2, hkk, h4, h5, w1, aunop, astrop, aeq, onB_t, onB_f]; first | (refine hA ?_; clear hA hB A B) | (refine hB ?_; clear hA hB A B) | (refine onB_if (fun h => hA ?_) (fun h => hB ?_) <;> clear hA hB A B))
      | refine WP.q ?_ | refine WP.b ?_)
    simp
  · by_cases hb0 : b = []
    · have h4 : ((b.length : Int) == 0) = true := by rw [hb0]; rfl
      have h5 : 0 < K := hK
      repeat' (first
        | (refine WP.fz 8 (s.nx + 1 + 1) 3 (a.length + b.length) (true, 34) (ab.map V.cs) ?_ ?_ ?_ ?_ ?_; (focus (simp; done)); (focus (simp [St.get_push, St.get_drop, mab]; done)); (focus (simp [kab]; done)); (focus (simp; omega)))
        | (refine WP.fz 9 (s.nx + 1 + 1 + 1 + 1 + 1) 3 (a.length + c.length) (true, 34) (ac.map V.cs) ?_ ?_ ?_ ?_ ?_; (focus (simp; done)); (focus (simp [St.get_push, St.get_drop, mac]; done)); (focus (simp [kac]; done)); (focus (simp; omega)))
        | refine WP.t ?_ | refine WP.k ?_ | refine WP.e ?_ | refine Qn ?_ | refine Qr ?_ | refine Qe ?_ | refine Bn ?_ | refine Br ?_ | refine Be ?_ | refine Bx (by decide) ?_
        | (refine RS.nl ?_; refine hk _ _ ?_; clear hk k)
        | (refine RS.st fun A B hA hB => ?_; simp [F13, F12, F11, F10, F9, F8, F7, F6, F5, F4, pShown, pCmpT, V.cs, abuildSlice, afill, chunks, abuiltin, alen, alenOk, ard, aappend, isSS, AV.isStr, elemOfT, elemId, ti22, ti34, ti4, fa, fb, fc, St.get_drop, la1, lb1, lc1, lab, lac, ha, hb, hab, h1, h2, hkk, h4, h5, w1, aunop, astrop, aeq, onW_t, onW_f, onV_s]; first | (refine hA _ _ _ ?_ ?_; (focus (first | (simp [F13, F12, F11, F10, F9, F8, F7, F6, F5, F4, pShown, pCmpT, V.cs, abuildSlice, afill, chunks, abuiltin, alen, alenOk, ard, aappend, isSS, AV.isStr, elemOfT, elemId, ti22, ti34, ti4, fa, fb, fc, St.get_drop, la1, lb1, lc1, lab, lac, ha, hb, hab, h1, h2, hkk, h4, h5, w1, aunop, astrop, aeq]; done) | (simp [F13, F12, F11, F10, F9, F8, F7, F6, F5, F4, pShown, pCmpT, V.cs, abuildSlice, afill, chunks, abuiltin, alen, alenOk, ard, aappend, isSS, AV.isStr, elemOfT, elemId, ti22, ti34, ti4, fa, fb, fc, St.get_drop, la1, lb1, lc1, lab, lac, ha, hb, hab, h1, h2, hkk, h4, h5, w1, aunop, astrop, aeq]; omega))); clear hA hB A B) | (refine hB ?_; clear hA hB A B))
        | refine WP.sr fun k hk => ?_ | refine WP.r fun k hk => ?_
        | (refine WP.cc fun A B hA hB => ?_; simp [F13, F12, F11, F10, F9, F8, F7, F6, F5, F4, pShown, pCmpT, V.cs, abuildSlice, afill, chunks, abuiltin, alen, alenOk, ard, aappend, isSS, AV.isStr, elemOfT, elemId, ti22, ti34, ti4, fa, fb, fc, St.get_drop, la1, lb1, lc1, lab, lac, ha, hb, hab, h1, h2, hkk, h4, h5, w1, aunop, astrop, aeq, onB_t, onB_f]; first | (refine hA ?_; clear hA hB A B) | (refine hB ?_; clear hA hB A B) | (refine onB_if (fun h => hA ?_) (fun h => hB ?_) <;> clear hA hB A B))
        | refine WP.q ?_ | refine WP.b ?_)
      simp
    · have h4 : ((b.length : Int) == 0) = false := by
        rw [beq_eq_false_iff_ne]
        have := List.length_pos_iff.2 hb0
        omega
      have h5 := h3
      repeat' (first
        | (refine WP.fz 8 (s.nx + 1 + 1) 3 (a.length + b.length) (true, 34) (ab.map V.cs) ?_ ?_ ?_ ?_ ?_; (focus (simp; done)); (focus (simp [St.get_push, St.get_drop, mab]; done)); (focus (simp [kab]; done)); (focus (simp; omega)))
        | (refine WP.fz 9 (s.nx + 1 + 1 + 1 + 1 + 1) 3 (a.length + c.length) (true, 34) (ac.map V.cs) ?_ ?_ ?_ ?_ ?_; (focus (simp; done)); (focus (simp [St.get_push, St.get_drop, mac]; done)); (focus (simp [kac]; done)); (focus (simp; omega)))
        | refine WP.t ?_ | refine WP.k ?_ | refine WP.e ?_ | refine Qn ?_ | refine Qr ?_ | refine Qe ?_ | refine Bn ?_ | refine Br ?_ | refine Be ?_ | refine Bx (by decide) ?_
        | (refine RS.nl ?_; refine hk _ _ ?_; clear hk k)
        | (refine RS.st fun A B hA hB => ?_; simp [F13, F12, F11, F10, F9, F8, F7, F6, F5, F4, pShown, pCmpT, V.cs, abuildSlice, afill, chunks, abuiltin, alen, alenOk, ard, aappend, isSS, AV.isStr, elemOfT, elemId, ti22, ti34, ti4, fa, fb, fc, St.get_drop, la1, lb1, lc1, lab, lac, ha, hb, hab, h1, h2, hkk, h4, h5, w1, aunop, astrop, aeq, onW_t, onW_f, onV_s]; first | (refine hA _ _ _ ?_ ?_; (focus (first | (simp [F13, F12, F11, F10, F9, F8, F7, F6, F5, F4, pShown, pCmpT, V.cs, abuildSlice, afill, chunks, abuiltin, alen, alenOk, ard, aappend, isSS, AV.isStr, elemOfT, elemId, ti22, ti34, ti4, fa, fb, fc, St.get_drop, la1, lb1, lc1, lab, lac, ha, hb, hab, h1, h2, hkk, h4, h5, w1, aunop, astrop, aeq]; done) | (simp [F13, F12, F11, F10, F9, F8, F7, F6, F5, F4, pShown, pCmpT, V.cs, abuildSlice, afill, chunks, abuiltin, alen, alenOk, ard, aappend, isSS, AV.isStr, elemOfT, elemId, ti22, ti34, ti4, fa, fb, fc, St.get_drop, la1, lb1, lc1, lab, lac, ha, hb, hab, h1, h2, hkk, h4, h5, w1, aunop, astrop, aeq]; omega))); clear hA hB A B) | (refine hB ?_; clear hA hB A B))
        | refine WP.sr fun k hk => ?_ | refine WP.r fun k hk => ?_
        | (refine WP.cc fun A B hA hB => ?_; simp [F13, F12, F11, F10, F9, F8, F7, F6, F5, F4, pShown, pCmpT, V.cs, abuildSlice, afill, chunks, abuiltin, alen, alenOk, ard, aappend, isSS, AV.isStr, elemOfT, elemId, ti22, ti34, ti4, fa, fb, fc, St.get_drop, la1, lb1, lc1, lab, lac, ha, hb, hab, h1, h2, hkk, h4, h5, w1, aunop, astrop, aeq, onB_t, onB_f]; first | (refine hA ?_; clear hA hB A B) | (refine hB ?_; clear hA hB A B) | (refine onB_if (fun h => hA ?_) (fun h => hB ?_) <;> clear hA hB A B))
        | refine WP.q ?_ | refine WP.b ?_)
      simp
end
end Go.Am
