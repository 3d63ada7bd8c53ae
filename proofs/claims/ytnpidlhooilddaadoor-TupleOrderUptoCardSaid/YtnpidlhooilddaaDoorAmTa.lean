/- Part of the proof: abstract values over the given model of Go (T10). Conditions: none of its own; see the statement in the seat's Rows text. -/
import Derived.Test.YtnpidlhooilddaaDoorAmT
import Derived.Test.YtnpidlhooilddaaDoorAmFour
set_option linter.unusedSimpArgs false
set_option linter.unusedVariables false
set_option linter.unusedSectionVars false
namespace Go.Am
open Go.Proofs
section
variable {K : Nat} {gw : World} {s : St}
attribute [local simp] RS_cons' RS_nil RQ_nil RQ_cons' awanted xop zOf zrow aop ev T0 Slots.put Slots.set Slots.get awr WOk AV.may ofConst abinop aint isConst St.get_push St.get_put St.live AV.fit AV.cells AV.one fieldOf afieldAddr aload ofCells astore splice May eqres env_ti FinP ares aresL ares1 Fns.addP Fns.add
set_option maxHeartbeats 4000000 in
theorem ft3 (hK : 0 < K) (hT : Tens gw) (a b c : List V) (ha : okT a = true) (hb : okT b = true) (hc : c.length < LIM)
    (h1 : cmpT b a = - cmpT a b) (hx : cmpT a b = -1 ∨ cmpT a b = 0 ∨ cmpT a b = 1) (hy : cmpT b c = -1 ∨ cmpT b c = 0 ∨ cmpT b c = 1)
    (h2 : 0 < cmpT a b ∨ 0 < cmpT b c ∨ cmpT a c ≤ 0) (h3 : 0 ≤ cmpT a b ∨ 0 ≤ cmpT b c ∨ cmpT a c < 0) (h4 : cmpT a b = 0 ↔ keyT a = keyT b) (h5 : cmpT a a = 0) :
    FT (env K gw) NoW 3 [.sl (a.map V.cs), .sl (b.map V.cs), .sl (c.map V.cs)] s (.bool true) s := by
  have a1 : a.length < LIM := by simp only [okT, Bool.and_eq_true, decide_eq_true_eq] at ha; exact ha.1.1
  have b1 : b.length < LIM := by simp only [okT, Bool.and_eq_true, decide_eq_true_eq] at hb; exact hb.1.1
  refine FT.pure (fn := Tryd.f3) (F13_ok hK hT) mixed Tryd.func3 (by kernel_rfl) (by rfl) rfl rfl (by simp) rfl fun μ w => ?_
  have w1 : IntKind.i64.wrap (-1) = -1 := wrap64 (by omega) (by omega)
  have w0 : IntKind.i64.wrap 0 = 0 := wrap64 (by omega) (by omega)
  have w2 : IntKind.i64.wrap 1 = 1 := wrap64 (by omega) (by omega)
  rcases hx with hx | hx | hx <;> rcases hy with hy | hy | hy
  · have hq : (keyT a == keyT b) = false := by rw [beq_eq_false_iff_ne]; intro e; have := h4.2 e; omega
    have hz : cmpT a c ≤ 0 := by first | exact hK | omega
    have hz2 : cmpT a c < 0 := by first | exact hK | omega
    repeat' (first
      | refine WP.t ?_ | refine WP.k ?_ | refine WP.e ?_ | refine Qn ?_ | refine Qr ?_ | refine Qe ?_ | refine Bn ?_ | refine Br ?_ | refine Be ?_ | refine Bx (by decide) ?_
      | (refine RS.nl ?_; refine hk _ _ ?_; clear hk k)
      | (refine RS.st fun A B hA hB => ?_; simp [F13, F12, F11, F10, F9, F8, F7, F6, F5, F4, pShown, pCmpT, a1, b1, ha, hb, hc, hx, hy, h1, hz, hz2, hq, h5, w1, w0, w2, aunop, astrop, aeq, ti4, onW_t, onW_f, onV_s]; first | (refine hA _ _ _ (by simp [F13, F12, F11, F10, F9, F8, F7, F6, F5, F4, pShown, pCmpT, a1, b1, ha, hb, hc, hx, hy, h1, hz, hz2, hq, h5, w1, w0, w2, aunop, astrop, aeq, ti4]) ?_; clear hA hB A B) | (refine hB ?_; clear hA hB A B))
      | refine WP.sr fun k hk => ?_ | refine WP.r fun k hk => ?_
      | (refine WP.cc fun A B hA hB => ?_; simp [F13, F12, F11, F10, F9, F8, F7, F6, F5, F4, pShown, pCmpT, a1, b1, ha, hb, hc, hx, hy, h1, hz, hz2, hq, h5, w1, w0, w2, aunop, astrop, aeq, ti4, onB_t, onB_f]; first | (refine hA ?_; clear hA hB A B) | (refine hB ?_; clear hA hB A B) | (refine onB_if (fun h => hA ?_) (fun h => hB ?_) <;> clear hA hB A B))
      | refine WP.q ?_ | refine WP.b ?_)
    simp
  · have hq : (keyT a == keyT b) = false := by rw [beq_eq_false_iff_ne]; intro e; have := h4.2 e; omega
    have hz : cmpT a c ≤ 0 := by first | exact hK | omega
    have hz2 : 0 < K := by first | exact hK | omega
    repeat' (first
      | refine WP.t ?_ | refine WP.k ?_ | refine WP.e ?_ | refine Qn ?_ | refine Qr ?_ | refine Qe ?_ | refine Bn ?_ | refine Br ?_ | refine Be ?_ | refine Bx (by decide) ?_
      | (refine RS.nl ?_; refine hk _ _ ?_; clear hk k)
      | (refine RS.st fun A B hA hB => ?_; simp [F13, F12, F11, F10, F9, F8, F7, F6, F5, F4, pShown, pCmpT, a1, b1, ha, hb, hc, hx, hy, h1, hz, hz2, hq, h5, w1, w0, w2, aunop, astrop, aeq, ti4, onW_t, onW_f, onV_s]; first | (refine hA _ _ _ (by simp [F13, F12, F11, F10, F9, F8, F7, F6, F5, F4, pShown, pCmpT, a1, b1, ha, hb, hc, hx, hy, h1, hz, hz2, hq, h5, w1, w0, w2, aunop, astrop, aeq, ti4]) ?_; clear hA hB A B) | (refine hB ?_; clear hA hB A B))
      | refine WP.sr fun k hk => ?_ | refine WP.r fun k hk => ?_
      | (refine WP.cc fun A B hA hB => ?_; simp [F13, F12, F11, F10, F9, F8, F7, F6, F5, F4, pShown, pCmpT, a1, b1, ha, hb, hc, hx, hy, h1, hz, hz2, hq, h5, w1, w0, w2, aunop, astrop, aeq, ti4, onB_t, onB_f]; first | (refine hA ?_; clear hA hB A B) | (refine hB ?_; clear hA hB A B) | (refine onB_if (fun h => hA ?_) (fun h => hB ?_) <;> clear hA hB A B))
      | refine WP.q ?_ | refine WP.b ?_)
    simp
  · have hq : (keyT a == keyT b) = false := by rw [beq_eq_false_iff_ne]; intro e; have := h4.2 e; omega
    have hz : 0 < K := by first | exact hK | omega
    have hz2 : 0 < K := by first | exact hK | omega
    repeat' (first
      | refine WP.t ?_ | refine WP.k ?_ | refine WP.e ?_ | refine Qn ?_ | refine Qr ?_ | refine Qe ?_ | refine Bn ?_ | refine Br ?_ | refine Be ?_ | refine Bx (by decide) ?_
      | (refine RS.nl ?_; refine hk _ _ ?_; clear hk k)
      | (refine RS.st fun A B hA hB => ?_; simp [F13, F12, F11, F10, F9, F8, F7, F6, F5, F4, pShown, pCmpT, a1, b1, ha, hb, hc, hx, hy, h1, hz, hz2, hq, h5, w1, w0, w2, aunop, astrop, aeq, ti4, onW_t, onW_f, onV_s]; first | (refine hA _ _ _ (by simp [F13, F12, F11, F10, F9, F8, F7, F6, F5, F4, pShown, pCmpT, a1, b1, ha, hb, hc, hx, hy, h1, hz, hz2, hq, h5, w1, w0, w2, aunop, astrop, aeq, ti4]) ?_; clear hA hB A B) | (refine hB ?_; clear hA hB A B))
      | refine WP.sr fun k hk => ?_ | refine WP.r fun k hk => ?_
      | (refine WP.cc fun A B hA hB => ?_; simp [F13, F12, F11, F10, F9, F8, F7, F6, F5, F4, pShown, pCmpT, a1, b1, ha, hb, hc, hx, hy, h1, hz, hz2, hq, h5, w1, w0, w2, aunop, astrop, aeq, ti4, onB_t, onB_f]; first | (refine hA ?_; clear hA hB A B) | (refine hB ?_; clear hA hB A B) | (refine onB_if (fun h => hA ?_) (fun h => hB ?_) <;> clear hA hB A B))
      | refine WP.q ?_ | refine WP.b ?_)
    simp
  · have hq : (keyT a == keyT b) = true := by rw [beq_iff_eq]; exact h4.1 hx
    have hz : cmpT a c ≤ 0 := by first | exact hK | omega
    have hz2 : 0 < K := by first | exact hK | omega
    repeat' (first
      | refine WP.t ?_ | refine WP.k ?_ | refine WP.e ?_ | refine Qn ?_ | refine Qr ?_ | refine Qe ?_ | refine Bn ?_ | refine Br ?_ | refine Be ?_ | refine Bx (by decide) ?_
      | (refine RS.nl ?_; refine hk _ _ ?_; clear hk k)
      | (refine RS.st fun A B hA hB => ?_; simp [F13, F12, F11, F10, F9, F8, F7, F6, F5, F4, pShown, pCmpT, a1, b1, ha, hb, hc, hx, hy, h1, hz, hz2, hq, h5, w1, w0, w2, aunop, astrop, aeq, ti4, onW_t, onW_f, onV_s]; first | (refine hA _ _ _ (by simp [F13, F12, F11, F10, F9, F8, F7, F6, F5, F4, pShown, pCmpT, a1, b1, ha, hb, hc, hx, hy, h1, hz, hz2, hq, h5, w1, w0, w2, aunop, astrop, aeq, ti4]) ?_; clear hA hB A B) | (refine hB ?_; clear hA hB A B))
      | refine WP.sr fun k hk => ?_ | refine WP.r fun k hk => ?_
      | (refine WP.cc fun A B hA hB => ?_; simp [F13, F12, F11, F10, F9, F8, F7, F6, F5, F4, pShown, pCmpT, a1, b1, ha, hb, hc, hx, hy, h1, hz, hz2, hq, h5, w1, w0, w2, aunop, astrop, aeq, ti4, onB_t, onB_f]; first | (refine hA ?_; clear hA hB A B) | (refine hB ?_; clear hA hB A B) | (refine onB_if (fun h => hA ?_) (fun h => hB ?_) <;> clear hA hB A B))
      | refine WP.q ?_ | refine WP.b ?_)
    simp
  · have hq : (keyT a == keyT b) = true := by rw [beq_iff_eq]; exact h4.1 hx
    have hz : cmpT a c ≤ 0 := by first | exact hK | omega
    have hz2 : 0 < K := by first | exact hK | omega
    repeat' (first
      | refine WP.t ?_ | refine WP.k ?_ | refine WP.e ?_ | refine Qn ?_ | refine Qr ?_ | refine Qe ?_ | refine Bn ?_ | refine Br ?_ | refine Be ?_ | refine Bx (by decide) ?_
      | (refine RS.nl ?_; refine hk _ _ ?_; clear hk k)
      | (refine RS.st fun A B hA hB => ?_; simp [F13, F12, F11, F10, F9, F8, F7, F6, F5, F4, pShown, pCmpT, a1, b1, ha, hb, hc, hx, hy, h1, hz, hz2, hq, h5, w1, w0, w2, aunop, astrop, aeq, ti4, onW_t, onW_f, onV_s]; first | (refine hA _ _ _ (by simp [F13, F12, F11, F10, F9, F8, F7, F6, F5, F4, pShown, pCmpT, a1, b1, ha, hb, hc, hx, hy, h1, hz, hz2, hq, h5, w1, w0, w2, aunop, astrop, aeq, ti4]) ?_; clear hA hB A B) | (refine hB ?_; clear hA hB A B))
      | refine WP.sr fun k hk => ?_ | refine WP.r fun k hk => ?_
      | (refine WP.cc fun A B hA hB => ?_; simp [F13, F12, F11, F10, F9, F8, F7, F6, F5, F4, pShown, pCmpT, a1, b1, ha, hb, hc, hx, hy, h1, hz, hz2, hq, h5, w1, w0, w2, aunop, astrop, aeq, ti4, onB_t, onB_f]; first | (refine hA ?_; clear hA hB A B) | (refine hB ?_; clear hA hB A B) | (refine onB_if (fun h => hA ?_) (fun h => hB ?_) <;> clear hA hB A B))
      | refine WP.q ?_ | refine WP.b ?_)
    simp
  · have hq : (keyT a == keyT b) = true := by rw [beq_iff_eq]; exact h4.1 hx
    have hz : 0 < K := by first | exact hK | omega
    have hz2 : 0 < K := by first | exact hK | omega
    repeat' (first
      | refine WP.t ?_ | refine WP.k ?_ | refine WP.e ?_ | refine Qn ?_ | refine Qr ?_ | refine Qe ?_ | refine Bn ?_ | refine Br ?_ | refine Be ?_ | refine Bx (by decide) ?_
      | (refine RS.nl ?_; refine hk _ _ ?_; clear hk k)
      | (refine RS.st fun A B hA hB => ?_; simp [F13, F12, F11, F10, F9, F8, F7, F6, F5, F4, pShown, pCmpT, a1, b1, ha, hb, hc, hx, hy, h1, hz, hz2, hq, h5, w1, w0, w2, aunop, astrop, aeq, ti4, onW_t, onW_f, onV_s]; first | (refine hA _ _ _ (by simp [F13, F12, F11, F10, F9, F8, F7, F6, F5, F4, pShown, pCmpT, a1, b1, ha, hb, hc, hx, hy, h1, hz, hz2, hq, h5, w1, w0, w2, aunop, astrop, aeq, ti4]) ?_; clear hA hB A B) | (refine hB ?_; clear hA hB A B))
      | refine WP.sr fun k hk => ?_ | refine WP.r fun k hk => ?_
      | (refine WP.cc fun A B hA hB => ?_; simp [F13, F12, F11, F10, F9, F8, F7, F6, F5, F4, pShown, pCmpT, a1, b1, ha, hb, hc, hx, hy, h1, hz, hz2, hq, h5, w1, w0, w2, aunop, astrop, aeq, ti4, onB_t, onB_f]; first | (refine hA ?_; clear hA hB A B) | (refine hB ?_; clear hA hB A B) | (refine onB_if (fun h => hA ?_) (fun h => hB ?_) <;> clear hA hB A B))
      | refine WP.q ?_ | refine WP.b ?_)
    simp
  · have hq : (keyT a == keyT b) = false := by rw [beq_eq_false_iff_ne]; intro e; have := h4.2 e; omega
    have hz : 0 < K := by first | exact hK | omega
    have hz2 : 0 < K := by first | exact hK | omega
    repeat' (first
      | refine WP.t ?_ | refine WP.k ?_ | refine WP.e ?_ | refine Qn ?_ | refine Qr ?_ | refine Qe ?_ | refine Bn ?_ | refine Br ?_ | refine Be ?_ | refine Bx (by decide) ?_
      | (refine RS.nl ?_; refine hk _ _ ?_; clear hk k)
      | (refine RS.st fun A B hA hB => ?_; simp [F13, F12, F11, F10, F9, F8, F7, F6, F5, F4, pShown, pCmpT, a1, b1, ha, hb, hc, hx, hy, h1, hz, hz2, hq, h5, w1, w0, w2, aunop, astrop, aeq, ti4, onW_t, onW_f, onV_s]; first | (refine hA _ _ _ (by simp [F13, F12, F11, F10, F9, F8, F7, F6, F5, F4, pShown, pCmpT, a1, b1, ha, hb, hc, hx, hy, h1, hz, hz2, hq, h5, w1, w0, w2, aunop, astrop, aeq, ti4]) ?_; clear hA hB A B) | (refine hB ?_; clear hA hB A B))
      | refine WP.sr fun k hk => ?_ | refine WP.r fun k hk => ?_
      | (refine WP.cc fun A B hA hB => ?_; simp [F13, F12, F11, F10, F9, F8, F7, F6, F5, F4, pShown, pCmpT, a1, b1, ha, hb, hc, hx, hy, h1, hz, hz2, hq, h5, w1, w0, w2, aunop, astrop, aeq, ti4, onB_t, onB_f]; first | (refine hA ?_; clear hA hB A B) | (refine hB ?_; clear hA hB A B) | (refine onB_if (fun h => hA ?_) (fun h => hB ?_) <;> clear hA hB A B))
      | refine WP.q ?_ | refine WP.b ?_)
    simp
  · have hq : (keyT a == keyT b) = false := by rw [beq_eq_false_iff_ne]; intro e; have := h4.2 e; omega
    have hz : 0 < K := by first | exact hK | omega
    have hz2 : 0 < K := by first | exact hK | omega
    repeat' (first
      | refine WP.t ?_ | refine WP.k ?_ | refine WP.e ?_ | refine Qn ?_ | refine Qr ?_ | refine Qe ?_ | refine Bn ?_ | refine Br ?_ | refine Be ?_ | refine Bx (by decide) ?_
      | (refine RS.nl ?_; refine hk _ _ ?_; clear hk k)
      | (refine RS.st fun A B hA hB => ?_; simp [F13, F12, F11, F10, F9, F8, F7, F6, F5, F4, pShown, pCmpT, a1, b1, ha, hb, hc, hx, hy, h1, hz, hz2, hq, h5, w1, w0, w2, aunop, astrop, aeq, ti4, onW_t, onW_f, onV_s]; first | (refine hA _ _ _ (by simp [F13, F12, F11, F10, F9, F8, F7, F6, F5, F4, pShown, pCmpT, a1, b1, ha, hb, hc, hx, hy, h1, hz, hz2, hq, h5, w1, w0, w2, aunop, astrop, aeq, ti4]) ?_; clear hA hB A B) | (refine hB ?_; clear hA hB A B))
      | refine WP.sr fun k hk => ?_ | refine WP.r fun k hk => ?_
      | (refine WP.cc fun A B hA hB => ?_; simp [F13, F12, F11, F10, F9, F8, F7, F6, F5, F4, pShown, pCmpT, a1, b1, ha, hb, hc, hx, hy, h1, hz, hz2, hq, h5, w1, w0, w2, aunop, astrop, aeq, ti4, onB_t, onB_f]; first | (refine hA ?_; clear hA hB A B) | (refine hB ?_; clear hA hB A B) | (refine onB_if (fun h => hA ?_) (fun h => hB ?_) <;> clear hA hB A B))
      | refine WP.q ?_ | refine WP.b ?_)
    simp
  · have hq : (keyT a == keyT b) = false := by rw [beq_eq_false_iff_ne]; intro e; have := h4.2 e; omega
    have hz : 0 < K := by first | exact hK | omega
    have hz2 : 0 < K := by first | exact hK | omega
    repeat' (first
      | refine WP.t ?_ | refine WP.k ?_ | refine WP.e ?_ | refine Qn ?_ | refine Qr ?_ | refine Qe ?_ | refine Bn ?_ | refine Br ?_ | refine Be ?_ | refine Bx (by decide) ?_
      | (refine RS.nl ?_; refine hk _ _ ?_; clear hk k)
      | (refine RS.st fun A B hA hB => ?_; simp [F13, F12, F11, F10, F9, F8, F7, F6, F5, F4, pShown, pCmpT, a1, b1, ha, hb, hc, hx, hy, h1, hz, hz2, hq, h5, w1, w0, w2, aunop, astrop, aeq, ti4, onW_t, onW_f, onV_s]; first | (refine hA _ _ _ (by simp [F13, F12, F11, F10, F9, F8, F7, F6, F5, F4, pShown, pCmpT, a1, b1, ha, hb, hc, hx, hy, h1, hz, hz2, hq, h5, w1, w0, w2, aunop, astrop, aeq, ti4]) ?_; clear hA hB A B) | (refine hB ?_; clear hA hB A B))
      | refine WP.sr fun k hk => ?_ | refine WP.r fun k hk => ?_
      | (refine WP.cc fun A B hA hB => ?_; simp [F13, F12, F11, F10, F9, F8, F7, F6, F5, F4, pShown, pCmpT, a1, b1, ha, hb, hc, hx, hy, h1, hz, hz2, hq, h5, w1, w0, w2, aunop, astrop, aeq, ti4, onB_t, onB_f]; first | (refine hA ?_; clear hA hB A B) | (refine hB ?_; clear hA hB A B) | (refine onB_if (fun h => hA ?_) (fun h => hB ?_) <;> clear hA hB A B))
      | refine WP.q ?_ | refine WP.b ?_)
    simp
end
end Go.Am
