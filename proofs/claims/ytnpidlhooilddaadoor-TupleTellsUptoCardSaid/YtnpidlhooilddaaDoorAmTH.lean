/- Part of the proof: abstract values over the given model of Go (T19, T20, T21, T22). Conditions: none of its own; see the statement in the seat's Rows text. -/
import Derived.Test.YtnpidlhooilddaaDoorAmTF
import Derived.Test.YtnpidlhooilddaaDoorAmTD
import Derived.Test.YtnpidlhooilddaaDoorAmPc
set_option linter.unusedSimpArgs false
set_option linter.unusedVariables false
set_option linter.unusedSectionVars false
namespace Go.Am
open Go.Proofs
theorem wrap8 {x : Int} (h0 : 0 ≤ x) (h1 : x ≤ 255) : IntKind.u8.wrap x = x := by
  have : IntKind.u8.wrap x = x % 256 := rfl
  rw [this]; omega
theorem byte_eq (c : Nat) (h : c < 10) : UInt8.ofNat (IntKind.u8.wrap (48 + (c : Int))).toNat = UInt8.ofNat (48 + c) := by
  rw [wrap8 (by omega) (by omega)]; congr 1
theorem dec_small {u : Nat} (h : u < 10) : Lib.decDigits u = [UInt8.ofNat (48 + u)] := by rw [Lib.decDigits, dif_pos h]
theorem dec_big {u : Nat} (h : ¬ u < 10) : Lib.decDigits u = Lib.decDigits (u / 10) ++ [UInt8.ofNat (48 + u % 10)] := by rw [Lib.decDigits, dif_neg h]
theorem itoa_nn {n : Int} (h : ¬ n < 0) : Lib.itoa n = Lib.decDigits n.toNat := by unfold Lib.itoa; rw [if_neg h]
theorem itoa_ng {n : Int} (h : n < 0) : Lib.itoa n = 45 :: Lib.decDigits n.natAbs := by unfold Lib.itoa; rw [if_pos h]
section
variable {K : Nat} {gw : World} {s : St}
attribute [local simp] RS_cons' RS_nil RQ_nil RQ_cons' awanted xop zOf zrow aop ev T0 Slots.put Slots.set Slots.get awr WOk AV.may ofConst abinop aint isConst St.get_push St.get_put St.live AV.fit AV.cells AV.one fieldOf afieldAddr aload ofCells astore splice May eqres env_ti FinP ares aresL ares1 Fns.addP Fns.add
def pFig (m : Nat) : List AV → Option AV
  | [.int .i64 n] => if i64ok n = true ∧ n.natAbs < m then some (.str (Lib.itoa n)) else none
  | _ => none
set_option maxRecDepth 20000 in
theorem ft40s (m : Nat) (hF : FOk (env K gw) (G3.addP 40 (pFig m))) (n : Int) (h : i64ok n = true) (hn : n.natAbs < m + 1) : FT (env K gw) NoW 40 [.int .i64 n] s (.str (Lib.itoa n)) s := by
  refine FT.pure (fn := Tryd.f40) hF mixed Tryd.func40 (by kernel_rfl) (by rfl) rfl rfl (by simp) rfl fun μ w => ?_
  have hi := h
  simp only [i64ok, decide_eq_true_eq] at hi
  have hx1 : 0 < K ∨ True := .inr trivial
  by_cases h0 : n < 0
  · have e1 : n.tmod 10 = -((-n) % 10) := by
      have := Int.neg_tmod (-n) 10
      rw [Int.neg_neg] at this
      rw [this, Int.tmod_eq_emod_of_nonneg (by omega)]
    have e3 : n.tdiv 10 = -((-n) / 10) := by
      have := Int.neg_tdiv (-n) 10
      rw [Int.neg_neg] at this
      rw [this, Int.tdiv_eq_ediv_of_nonneg (by omega)]
    have e2 : 48 - n.tmod 10 = ((48 + n.natAbs % 10 : Nat) : Int) := by omega
    have w1 : IntKind.i64.wrap (48 - n.tmod 10) = ((48 + n.natAbs % 10 : Nat) : Int) := by rw [e2]; exact wrap64 (by omega) (by omega)
    have hbb := byte_eq (n.natAbs % 10) (by omega)
    by_cases h1 : -10 < n
    · have hr : Lib.itoa n = 45 :: [UInt8.ofNat (48 + n.natAbs % 10)] := by
        rw [itoa_ng h0, dec_small (by omega), Nat.mod_eq_of_lt (by omega)]
      rw [hr]
      generalize hc : n.natAbs % 10 = c at *
      generalize hb8 : UInt8.ofNat (48 + c) = bb at *
      repeat' (first
        | refine WP.t ?_ | refine WP.k ?_ | refine WP.e ?_ | refine Qn ?_ | refine Qr ?_ | refine Qe ?_ | refine Bn ?_ | refine Br ?_ | refine Be ?_ | refine Bx (by decide) ?_
        | (refine RS.nl ?_; refine hk _ _ ?_; clear hk k)
        | (refine RS.st fun A B hA hB => ?_; simp [h0, h1, G3, pFig, w1, hbb, abuildSlice, afill, chunks, elemOfT, elemId, ti52, ti5, ti9, aconv, aconvert, ard, byteOf, AV.isStr, astrop, onW_t, onW_f, onV_s]; first | (refine hA _ _ _ ?_ ?_; (focus (first | (simp [h0, h1, G3, pFig, w1, hbb, abuildSlice, afill, chunks, elemOfT, elemId, ti52, ti5, ti9, aconv, aconvert, ard, byteOf, AV.isStr, astrop]; done) | (simp [h0, h1, G3, pFig, w1, hbb, abuildSlice, afill, chunks, elemOfT, elemId, ti52, ti5, ti9, aconv, aconvert, ard, byteOf, AV.isStr, astrop]; omega))); clear hA hB A B) | (refine hB ?_; clear hA hB A B))
        | (refine RQ.nl ?_; refine hk _ _ ?_; clear hk k)
        | (refine RW.nl ?_; refine hk _ _ ?_; clear hk k)
        | (refine RW.st fun A B hA hB => ?_; simp [h0, h1, G3, pFig, w1, hbb, abuildSlice, afill, chunks, elemOfT, elemId, ti52, ti5, ti9, aconv, aconvert, ard, byteOf, AV.isStr, astrop, onW_t, onW_f, onV_s]; first | (refine hA _ _ _ ?_ (by first | exact .inl (by decide) | exact .inr (.inl rfl) | exact .inr (.inr rfl)) (by first | exact .inl (by decide) | exact .inr (.inl (by decide)) | exact .inr (.inr fun s2 => by simp [h0, h1, G3, pFig, w1, hbb, abuildSlice, afill, chunks, elemOfT, elemId, ti52, ti5, ti9, aconv, aconvert, ard, byteOf, AV.isStr, astrop])) ?_; (focus (first | (simp [h0, h1, G3, pFig, w1, hbb, abuildSlice, afill, chunks, elemOfT, elemId, ti52, ti5, ti9, aconv, aconvert, ard, byteOf, AV.isStr, astrop]; done) | (simp [h0, h1, G3, pFig, w1, hbb, abuildSlice, afill, chunks, elemOfT, elemId, ti52, ti5, ti9, aconv, aconvert, ard, byteOf, AV.isStr, astrop]; omega))); clear hA hB A B) | (refine hB ?_; clear hA hB A B))
        | (refine RQ.st fun A B hA hB => ?_; simp [h0, h1, G3, pFig, w1, hbb, abuildSlice, afill, chunks, elemOfT, elemId, ti52, ti5, ti9, aconv, aconvert, ard, byteOf, AV.isStr, astrop, onW_t, onW_f, onV_s]; first | (refine hA _ _ _ ?_ (by first | exact .inl rfl | exact .inr (by decide)) ?_; (focus (first | (simp [h0, h1, G3, pFig, w1, hbb, abuildSlice, afill, chunks, elemOfT, elemId, ti52, ti5, ti9, aconv, aconvert, ard, byteOf, AV.isStr, astrop]; done) | (simp [h0, h1, G3, pFig, w1, hbb, abuildSlice, afill, chunks, elemOfT, elemId, ti52, ti5, ti9, aconv, aconvert, ard, byteOf, AV.isStr, astrop]; omega))); clear hA hB A B) | (refine hB ?_; clear hA hB A B))
        | refine WP.sr fun k hk => ?_ | refine WP.r fun k hk => ?_ | refine WP.sd _ rfl fun k hk => ?_ | refine WP.d _ rfl fun k hk => ?_
        | (refine WP.cc fun A B hA hB => ?_; simp [h0, h1, G3, pFig, w1, hbb, abuildSlice, afill, chunks, elemOfT, elemId, ti52, ti5, ti9, aconv, aconvert, ard, byteOf, AV.isStr, astrop, onB_t, onB_f]; first | (refine hA ?_; clear hA hB A B) | (refine hB ?_; clear hA hB A B) | (refine onB_if (fun h => hA ?_) (fun h => hB ?_) <;> clear hA hB A B))
        | refine WP.q ?_ | refine WP.b ?_)
      simp
    · generalize hq : n.tdiv 10 = q at *
      have hqok : i64ok q = true := by simp only [i64ok, decide_eq_true_eq]; omega
      have hqn : q.natAbs < m := by omega
      have wq : IntKind.i64.wrap q = q := wrap64 (by omega) (by omega)
      have hr : Lib.itoa n = Lib.itoa q ++ [UInt8.ofNat (48 + n.natAbs % 10)] := by
        rw [itoa_ng h0, itoa_ng (by omega), dec_big (by omega), List.cons_append]
        congr 3
        omega
      have hlen := Lib.itoa_length_le q (by simp only [i64ok, decide_eq_true_eq] at hqok; exact hqok.1) (by simp only [i64ok, decide_eq_true_eq] at hqok; exact hqok.2)
      have hlen2 : (Lib.itoa q).length + 1 ≤ 9223372036854775807 := by omega
      rw [hr]
      generalize hc : n.natAbs % 10 = c at *
      generalize hb8 : UInt8.ofNat (48 + c) = bb at *
      repeat' (first
        | refine WP.t ?_ | refine WP.k ?_ | refine WP.e ?_ | refine Qn ?_ | refine Qr ?_ | refine Qe ?_ | refine Bn ?_ | refine Br ?_ | refine Be ?_ | refine Bx (by decide) ?_
        | (refine RS.nl ?_; refine hk _ _ ?_; clear hk k)
        | (refine RS.st fun A B hA hB => ?_; simp [h0, h1, G3, pFig, hq, hqok, hqn, w1, hbb, wq, hlen2, abuildSlice, afill, chunks, elemOfT, elemId, ti52, ti5, ti9, aconv, aconvert, ard, byteOf, AV.isStr, astrop, onW_t, onW_f, onV_s]; first | (refine hA _ _ _ ?_ ?_; (focus (first | (simp [h0, h1, G3, pFig, hq, hqok, hqn, w1, hbb, wq, hlen2, abuildSlice, afill, chunks, elemOfT, elemId, ti52, ti5, ti9, aconv, aconvert, ard, byteOf, AV.isStr, astrop]; done) | (simp [h0, h1, G3, pFig, hq, hqok, hqn, w1, hbb, wq, hlen2, abuildSlice, afill, chunks, elemOfT, elemId, ti52, ti5, ti9, aconv, aconvert, ard, byteOf, AV.isStr, astrop]; omega))); clear hA hB A B) | (refine hB ?_; clear hA hB A B))
        | (refine RQ.nl ?_; refine hk _ _ ?_; clear hk k)
        | (refine RW.nl ?_; refine hk _ _ ?_; clear hk k)
        | (refine RW.st fun A B hA hB => ?_; simp [h0, h1, G3, pFig, hq, hqok, hqn, w1, hbb, wq, hlen2, abuildSlice, afill, chunks, elemOfT, elemId, ti52, ti5, ti9, aconv, aconvert, ard, byteOf, AV.isStr, astrop, onW_t, onW_f, onV_s]; first | (refine hA _ _ _ ?_ (by first | exact .inl (by decide) | exact .inr (.inl rfl) | exact .inr (.inr rfl)) (by first | exact .inl (by decide) | exact .inr (.inl (by decide)) | exact .inr (.inr fun s2 => by simp [h0, h1, G3, pFig, hq, hqok, hqn, w1, hbb, wq, hlen2, abuildSlice, afill, chunks, elemOfT, elemId, ti52, ti5, ti9, aconv, aconvert, ard, byteOf, AV.isStr, astrop])) ?_; (focus (first | (simp [h0, h1, G3, pFig, hq, hqok, hqn, w1, hbb, wq, hlen2, abuildSlice, afill, chunks, elemOfT, elemId, ti52, ti5, ti9, aconv, aconvert, ard, byteOf, AV.isStr, astrop]; done) | (simp [h0, h1, G3, pFig, hq, hqok, hqn, w1, hbb, wq, hlen2, abuildSlice, afill, chunks, elemOfT, elemId, ti52, ti5, ti9, aconv, aconvert, ard, byteOf, AV.isStr, astrop]; omega))); clear hA hB A B) | (refine hB ?_; clear hA hB A B))
        | (refine RQ.st fun A B hA hB => ?_; simp [h0, h1, G3, pFig, hq, hqok, hqn, w1, hbb, wq, hlen2, abuildSlice, afill, chunks, elemOfT, elemId, ti52, ti5, ti9, aconv, aconvert, ard, byteOf, AV.isStr, astrop, onW_t, onW_f, onV_s]; first | (refine hA _ _ _ ?_ (by first | exact .inl rfl | exact .inr (by decide)) ?_; (focus (first | (simp [h0, h1, G3, pFig, hq, hqok, hqn, w1, hbb, wq, hlen2, abuildSlice, afill, chunks, elemOfT, elemId, ti52, ti5, ti9, aconv, aconvert, ard, byteOf, AV.isStr, astrop]; done) | (simp [h0, h1, G3, pFig, hq, hqok, hqn, w1, hbb, wq, hlen2, abuildSlice, afill, chunks, elemOfT, elemId, ti52, ti5, ti9, aconv, aconvert, ard, byteOf, AV.isStr, astrop]; omega))); clear hA hB A B) | (refine hB ?_; clear hA hB A B))
        | refine WP.sr fun k hk => ?_ | refine WP.r fun k hk => ?_ | refine WP.sd _ rfl fun k hk => ?_ | refine WP.d _ rfl fun k hk => ?_
        | (refine WP.cc fun A B hA hB => ?_; simp [h0, h1, G3, pFig, hq, hqok, hqn, w1, hbb, wq, hlen2, abuildSlice, afill, chunks, elemOfT, elemId, ti52, ti5, ti9, aconv, aconvert, ard, byteOf, AV.isStr, astrop, onB_t, onB_f]; first | (refine hA ?_; clear hA hB A B) | (refine hB ?_; clear hA hB A B) | (refine onB_if (fun h => hA ?_) (fun h => hB ?_) <;> clear hA hB A B))
        | refine WP.q ?_ | refine WP.b ?_)
      simp
  · have hnn : 0 ≤ n := by omega
    have e1 : n.tmod 10 = ((n.toNat % 10 : Nat) : Int) := by rw [Int.tmod_eq_emod_of_nonneg hnn]; omega
    have e3 : n.tdiv 10 = n / 10 := Int.tdiv_eq_ediv_of_nonneg hnn
    by_cases h1 : n < 10
    · have hr : Lib.itoa n = [UInt8.ofNat (48 + n.toNat)] := by rw [itoa_nn h0, dec_small (by omega)]
      have e2 : 48 + n = ((48 + n.toNat : Nat) : Int) := by omega
      have w1 : IntKind.i64.wrap (48 + n) = ((48 + n.toNat : Nat) : Int) := by rw [e2]; exact wrap64 (by omega) (by omega)
      have hbb := byte_eq n.toNat (by omega)
      rw [hr]
      generalize hc : n.toNat = c at *
      generalize hb8 : UInt8.ofNat (48 + c) = bb at *
      repeat' (first
        | refine WP.t ?_ | refine WP.k ?_ | refine WP.e ?_ | refine Qn ?_ | refine Qr ?_ | refine Qe ?_ | refine Bn ?_ | refine Br ?_ | refine Be ?_ | refine Bx (by decide) ?_
        | (refine RS.nl ?_; refine hk _ _ ?_; clear hk k)
        | (refine RS.st fun A B hA hB => ?_; simp [h0, h1, G3, pFig, w1, hbb, abuildSlice, afill, chunks, elemOfT, elemId, ti52, ti5, ti9, aconv, aconvert, ard, byteOf, AV.isStr, astrop, onW_t, onW_f, onV_s]; first | (refine hA _ _ _ ?_ ?_; (focus (first | (simp [h0, h1, G3, pFig, w1, hbb, abuildSlice, afill, chunks, elemOfT, elemId, ti52, ti5, ti9, aconv, aconvert, ard, byteOf, AV.isStr, astrop]; done) | (simp [h0, h1, G3, pFig, w1, hbb, abuildSlice, afill, chunks, elemOfT, elemId, ti52, ti5, ti9, aconv, aconvert, ard, byteOf, AV.isStr, astrop]; omega))); clear hA hB A B) | (refine hB ?_; clear hA hB A B))
        | (refine RQ.nl ?_; refine hk _ _ ?_; clear hk k)
        | (refine RW.nl ?_; refine hk _ _ ?_; clear hk k)
        | (refine RW.st fun A B hA hB => ?_; simp [h0, h1, G3, pFig, w1, hbb, abuildSlice, afill, chunks, elemOfT, elemId, ti52, ti5, ti9, aconv, aconvert, ard, byteOf, AV.isStr, astrop, onW_t, onW_f, onV_s]; first | (refine hA _ _ _ ?_ (by first | exact .inl (by decide) | exact .inr (.inl rfl) | exact .inr (.inr rfl)) (by first | exact .inl (by decide) | exact .inr (.inl (by decide)) | exact .inr (.inr fun s2 => by simp [h0, h1, G3, pFig, w1, hbb, abuildSlice, afill, chunks, elemOfT, elemId, ti52, ti5, ti9, aconv, aconvert, ard, byteOf, AV.isStr, astrop])) ?_; (focus (first | (simp [h0, h1, G3, pFig, w1, hbb, abuildSlice, afill, chunks, elemOfT, elemId, ti52, ti5, ti9, aconv, aconvert, ard, byteOf, AV.isStr, astrop]; done) | (simp [h0, h1, G3, pFig, w1, hbb, abuildSlice, afill, chunks, elemOfT, elemId, ti52, ti5, ti9, aconv, aconvert, ard, byteOf, AV.isStr, astrop]; omega))); clear hA hB A B) | (refine hB ?_; clear hA hB A B))
        | (refine RQ.st fun A B hA hB => ?_; simp [h0, h1, G3, pFig, w1, hbb, abuildSlice, afill, chunks, elemOfT, elemId, ti52, ti5, ti9, aconv, aconvert, ard, byteOf, AV.isStr, astrop, onW_t, onW_f, onV_s]; first | (refine hA _ _ _ ?_ (by first | exact .inl rfl | exact .inr (by decide)) ?_; (focus (first | (simp [h0, h1, G3, pFig, w1, hbb, abuildSlice, afill, chunks, elemOfT, elemId, ti52, ti5, ti9, aconv, aconvert, ard, byteOf, AV.isStr, astrop]; done) | (simp [h0, h1, G3, pFig, w1, hbb, abuildSlice, afill, chunks, elemOfT, elemId, ti52, ti5, ti9, aconv, aconvert, ard, byteOf, AV.isStr, astrop]; omega))); clear hA hB A B) | (refine hB ?_; clear hA hB A B))
        | refine WP.sr fun k hk => ?_ | refine WP.r fun k hk => ?_ | refine WP.sd _ rfl fun k hk => ?_ | refine WP.d _ rfl fun k hk => ?_
        | (refine WP.cc fun A B hA hB => ?_; simp [h0, h1, G3, pFig, w1, hbb, abuildSlice, afill, chunks, elemOfT, elemId, ti52, ti5, ti9, aconv, aconvert, ard, byteOf, AV.isStr, astrop, onB_t, onB_f]; first | (refine hA ?_; clear hA hB A B) | (refine hB ?_; clear hA hB A B) | (refine onB_if (fun h => hA ?_) (fun h => hB ?_) <;> clear hA hB A B))
        | refine WP.q ?_ | refine WP.b ?_)
      simp
    · have e2 : 48 + n.tmod 10 = ((48 + n.toNat % 10 : Nat) : Int) := by omega
      have w1 : IntKind.i64.wrap (48 + n.tmod 10) = ((48 + n.toNat % 10 : Nat) : Int) := by rw [e2]; exact wrap64 (by omega) (by omega)
      have hbb := byte_eq (n.toNat % 10) (by omega)
      generalize hq : n.tdiv 10 = q at *
      have hqok : i64ok q = true := by simp only [i64ok, decide_eq_true_eq]; omega
      have hqn : q.natAbs < m := by omega
      have wq : IntKind.i64.wrap q = q := wrap64 (by omega) (by omega)
      have hr : Lib.itoa n = Lib.itoa q ++ [UInt8.ofNat (48 + n.toNat % 10)] := by
        rw [itoa_nn h0, itoa_nn (by omega), dec_big (by omega)]
        congr 2
        omega
      have hlen := Lib.itoa_length_le q (by simp only [i64ok, decide_eq_true_eq] at hqok; exact hqok.1) (by simp only [i64ok, decide_eq_true_eq] at hqok; exact hqok.2)
      have hlen2 : (Lib.itoa q).length + 1 ≤ 9223372036854775807 := by omega
      rw [hr]
      generalize hc : n.toNat % 10 = c at *
      generalize hb8 : UInt8.ofNat (48 + c) = bb at *
      repeat' (first
        | refine WP.t ?_ | refine WP.k ?_ | refine WP.e ?_ | refine Qn ?_ | refine Qr ?_ | refine Qe ?_ | refine Bn ?_ | refine Br ?_ | refine Be ?_ | refine Bx (by decide) ?_
        | (refine RS.nl ?_; refine hk _ _ ?_; clear hk k)
        | (refine RS.st fun A B hA hB => ?_; simp [h0, h1, G3, pFig, hq, hqok, hqn, w1, hbb, wq, hlen2, abuildSlice, afill, chunks, elemOfT, elemId, ti52, ti5, ti9, aconv, aconvert, ard, byteOf, AV.isStr, astrop, onW_t, onW_f, onV_s]; first | (refine hA _ _ _ ?_ ?_; (focus (first | (simp [h0, h1, G3, pFig, hq, hqok, hqn, w1, hbb, wq, hlen2, abuildSlice, afill, chunks, elemOfT, elemId, ti52, ti5, ti9, aconv, aconvert, ard, byteOf, AV.isStr, astrop]; done) | (simp [h0, h1, G3, pFig, hq, hqok, hqn, w1, hbb, wq, hlen2, abuildSlice, afill, chunks, elemOfT, elemId, ti52, ti5, ti9, aconv, aconvert, ard, byteOf, AV.isStr, astrop]; omega))); clear hA hB A B) | (refine hB ?_; clear hA hB A B))
        | (refine RQ.nl ?_; refine hk _ _ ?_; clear hk k)
        | (refine RW.nl ?_; refine hk _ _ ?_; clear hk k)
        | (refine RW.st fun A B hA hB => ?_; simp [h0, h1, G3, pFig, hq, hqok, hqn, w1, hbb, wq, hlen2, abuildSlice, afill, chunks, elemOfT, elemId, ti52, ti5, ti9, aconv, aconvert, ard, byteOf, AV.isStr, astrop, onW_t, onW_f, onV_s]; first | (refine hA _ _ _ ?_ (by first | exact .inl (by decide) | exact .inr (.inl rfl) | exact .inr (.inr rfl)) (by first | exact .inl (by decide) | exact .inr (.inl (by decide)) | exact .inr (.inr fun s2 => by simp [h0, h1, G3, pFig, hq, hqok, hqn, w1, hbb, wq, hlen2, abuildSlice, afill, chunks, elemOfT, elemId, ti52, ti5, ti9, aconv, aconvert, ard, byteOf, AV.isStr, astrop])) ?_; (focus (first | (simp [h0, h1, G3, pFig, hq, hqok, hqn, w1, hbb, wq, hlen2, abuildSlice, afill, chunks, elemOfT, elemId, ti52, ti5, ti9, aconv, aconvert, ard, byteOf, AV.isStr, astrop]; done) | (simp [h0, h1, G3, pFig, hq, hqok, hqn, w1, hbb, wq, hlen2, abuildSlice, afill, chunks, elemOfT, elemId, ti52, ti5, ti9, aconv, aconvert, ard, byteOf, AV.isStr, astrop]; omega))); clear hA hB A B) | (refine hB ?_; clear hA hB A B))
        | (refine RQ.st fun A B hA hB => ?_; simp [h0, h1, G3, pFig, hq, hqok, hqn, w1, hbb, wq, hlen2, abuildSlice, afill, chunks, elemOfT, elemId, ti52, ti5, ti9, aconv, aconvert, ard, byteOf, AV.isStr, astrop, onW_t, onW_f, onV_s]; first | (refine hA _ _ _ ?_ (by first | exact .inl rfl | exact .inr (by decide)) ?_; (focus (first | (simp [h0, h1, G3, pFig, hq, hqok, hqn, w1, hbb, wq, hlen2, abuildSlice, afill, chunks, elemOfT, elemId, ti52, ti5, ti9, aconv, aconvert, ard, byteOf, AV.isStr, astrop]; done) | (simp [h0, h1, G3, pFig, hq, hqok, hqn, w1, hbb, wq, hlen2, abuildSlice, afill, chunks, elemOfT, elemId, ti52, ti5, ti9, aconv, aconvert, ard, byteOf, AV.isStr, astrop]; omega))); clear hA hB A B) | (refine hB ?_; clear hA hB A B))
        | refine WP.sr fun k hk => ?_ | refine WP.r fun k hk => ?_ | refine WP.sd _ rfl fun k hk => ?_ | refine WP.d _ rfl fun k hk => ?_
        | (refine WP.cc fun A B hA hB => ?_; simp [h0, h1, G3, pFig, hq, hqok, hqn, w1, hbb, wq, hlen2, abuildSlice, afill, chunks, elemOfT, elemId, ti52, ti5, ti9, aconv, aconvert, ard, byteOf, AV.isStr, astrop, onB_t, onB_f]; first | (refine hA ?_; clear hA hB A B) | (refine hB ?_; clear hA hB A B) | (refine onB_if (fun h => hA ?_) (fun h => hB ?_) <;> clear hA hB A B))
        | refine WP.q ?_ | refine WP.b ?_)
      simp
end
end Go.Am
namespace Go.Am
open Go.Proofs
section
variable {K : Nat} {gw : World} {s : St}
attribute [local simp] RS_cons' RS_nil RQ_nil RQ_cons' awanted xop zOf zrow aop ev T0 Slots.put Slots.set Slots.get awr WOk AV.may ofConst abinop aint isConst St.get_push St.get_put St.live AV.fit AV.cells AV.one fieldOf afieldAddr aload ofCells astore splice May eqres env_ti FinP ares aresL ares1 Fns.addP Fns.add
theorem ft40 (hK : 3 < K) (hT : Tens gw) (hE : Errs gw) : ∀ (m : Nat) (n : Int) (s : St), i64ok n = true → n.natAbs < m → FT (env K gw) NoW 40 [.int .i64 n] s (.str (Lib.itoa n)) s := by
  intro m
  induction m with
  | zero => intro n s _ h; omega
  | succ m ih =>
    intro n s h hn
    refine ft40s m ((G3_ok hK hT hE).addP fun xs s r hr => ?_) n h hn
    unfold pFig at hr
    split at hr
    · split at hr
      · rename_i hc; cases hr; exact ih _ _ hc.1 hc.2
      · cases hr
    · cases hr
def pFigA : List AV → Option AV
  | [.int .i64 n] => if i64ok n = true then some (.str (Lib.itoa n)) else none
  | _ => none
noncomputable def G4 : Fns := (((((G3.addP 40 pFigA).addP 49 pTexts).addP 33 pComp).addP 15 pSameV).addP 14 pSameT).addP 13 pProj
theorem G4_ok (hK : 3 < K) (hT : Tens gw) (hE : Errs gw) : FOk (env K gw) G4 := by
  refine ((((((G3_ok hK hT hE).addP ?_).addP ?_).addP ?_).addP ?_).addP ?_).addP ?_
  · intro xs s r h; unfold pFigA at h; split at h
    · split at h
      · rename_i hc; cases h; exact ft40 hK hT hE _ _ _ hc (Nat.lt_succ_self _)
      · cases h
    · cases h
  · intro xs s r h; unfold pTexts at h; split at h
    · split at h
      · rename_i hl; cases h; exact ft49 _ _ hl.1 hl.2
      · cases h
    · cases h
  · intro xs s r h; unfold pComp at h; split at h
    · split at h
      · rename_i h1 h2
        split at h
        · rename_i hl; cases h; rw [decV_eq h1, decV_eq h2]; exact ft33 (by omega) hT _ _ hl.1 hl.2
        · cases h
      · cases h
    · cases h
  · intro xs s r h; unfold pSameV at h; split at h
    · split at h
      · rename_i h1 h2
        split at h
        · rename_i hl; cases h; rw [decV_eq h1, decV_eq h2]; exact ft15 (by omega) hT _ _ hl.1 hl.2
        · cases h
      · cases h
    · cases h
  · intro xs s r h; unfold pSameT at h; split at h
    · split at h
      · rename_i h1 h2
        split at h
        · rename_i hl; cases h; rw [decL_eq h1, decL_eq h2]; exact ft14 _ _ hl.1 hl.2
        · cases h
      · cases h
    · cases h
  · intro xs s r h; exact proj_ok h
theorem ft42 (v : V) : FT (env K gw) NoW 42 [.agg v.cs] s (.agg (bareV v).cs) s := by
  refine FT.pure (fn := Tryd.f42) F0_ok mixed Tryd.func42 (by kernel_rfl) (by rfl) rfl rfl (by simp) rfl fun μ w => ?_
  obtain ⟨b, x, n⟩ := v
  cases b
  all_goals
    repeat' (first
      | refine WP.t ?_ | refine WP.k ?_ | refine WP.e ?_ | refine Qn ?_ | refine Qr ?_ | refine Qe ?_ | refine Bn ?_ | refine Br ?_ | refine Be ?_ | refine Bx (by decide) ?_
      | (refine RS.nl ?_; refine hk _ _ ?_; clear hk k)
      | (refine RS.st fun A B hA hB => ?_; simp [ti34, ti4, ti9, ti2, V.cs, abuild, afill, placesOf, onW_t, onW_f, onV_s]; first | (refine hA _ _ _ ?_ ?_; (focus (first | (simp [ti34, ti4, ti9, ti2, V.cs, abuild, afill, placesOf]; done) | (simp [ti34, ti4, ti9, ti2, V.cs, abuild, afill, placesOf]; omega))); clear hA hB A B) | (refine hB ?_; clear hA hB A B))
      | (refine RQ.nl ?_; refine hk _ _ ?_; clear hk k)
      | (refine RW.nl ?_; refine hk _ _ ?_; clear hk k)
      | (refine RW.st fun A B hA hB => ?_; simp [ti34, ti4, ti9, ti2, V.cs, abuild, afill, placesOf, onW_t, onW_f, onV_s]; first | (refine hA _ _ _ ?_ (by first | exact .inl (by decide) | exact .inr (.inl rfl) | exact .inr (.inr rfl)) (by first | exact .inl (by decide) | exact .inr (.inl (by decide)) | exact .inr (.inr fun s2 => by simp [ti34, ti4, ti9, ti2, V.cs, abuild, afill, placesOf])) ?_; (focus (first | (simp [ti34, ti4, ti9, ti2, V.cs, abuild, afill, placesOf]; done) | (simp [ti34, ti4, ti9, ti2, V.cs, abuild, afill, placesOf]; omega))); clear hA hB A B) | (refine hB ?_; clear hA hB A B))
      | (refine RQ.st fun A B hA hB => ?_; simp [ti34, ti4, ti9, ti2, V.cs, abuild, afill, placesOf, onW_t, onW_f, onV_s]; first | (refine hA _ _ _ ?_ (by first | exact .inl rfl | exact .inr (by decide)) ?_; (focus (first | (simp [ti34, ti4, ti9, ti2, V.cs, abuild, afill, placesOf]; done) | (simp [ti34, ti4, ti9, ti2, V.cs, abuild, afill, placesOf]; omega))); clear hA hB A B) | (refine hB ?_; clear hA hB A B))
      | refine WP.sr fun k hk => ?_ | refine WP.r fun k hk => ?_ | refine WP.sd _ rfl fun k hk => ?_ | refine WP.d _ rfl fun k hk => ?_
      | (refine WP.cc fun A B hA hB => ?_; simp [ti34, ti4, ti9, ti2, V.cs, abuild, afill, placesOf, onB_t, onB_f]; first | (refine hA ?_; clear hA hB A B) | (refine hB ?_; clear hA hB A B) | (refine onB_if (fun h => hA ?_) (fun h => hB ?_) <;> clear hA hB A B))
      | refine WP.q ?_ | refine WP.b ?_)
    simp [ti34, bareV, V.cs]
noncomputable def G5 : Fns := G4.addP 42 pBare
theorem G5_ok (hK : 3 < K) (hT : Tens gw) (hE : Errs gw) : FOk (env K gw) G5 := by
  refine (G4_ok hK hT hE).addP ?_
  intro xs s r h
  unfold pBare at h
  split at h
  · obtain ⟨v, hv, rfl⟩ := Option.map_eq_some_iff.1 h
    rw [decV_eq hv]
    exact ft42 v
  · cases h
end
end Go.Am
namespace Go.Am
open Go.Proofs
section
variable {K : Nat} {gw : World} {s : St}
attribute [local simp] RS_cons' RS_nil RQ_nil RQ_cons' awanted xop zOf zrow aop ev T0 Slots.put Slots.set Slots.get awr WOk AV.may ofConst abinop aint isConst St.get_push St.get_put St.live AV.fit AV.cells AV.one fieldOf afieldAddr aload ofCells astore splice May eqres env_ti FinP ares aresL ares1 Fns.addP Fns.add
theorem ft26 (hK : 3 < K) (hT : Tens gw) (hE : Errs gw) (l : List V) (hl : l.length < 1073741824) : FT (env K gw) NoW 26 [.sl (l.map V.cs)] s (.sl ((l.map bareV).map V.cs)) s := by
  refine FT.data (fn := Tryd.f26) (G5_ok hK hT hE) mixed Tryd.func26 (by kernel_rfl) (by rfl) rfl rfl (by simp) rfl fun μ w => ?_
  repeat' (first
    | refine WP.t ?_ | refine WP.k ?_ | refine WP.e ?_ | refine Qn ?_ | refine Qr ?_ | refine Qe ?_ | refine Bn ?_ | refine Br ?_ | refine Be ?_ | refine Bx (by decide) ?_
    | (refine RS.nl ?_; refine hk _ _ ?_; clear hk k)
    | (refine RS.st fun A B hA hB => ?_; simp [abuiltin, onW_t, onW_f, onV_s]; first | (refine hA _ _ _ ?_ ?_; (focus (first | (simp [abuiltin]; done) | (simp [abuiltin]; omega))); clear hA hB A B) | (refine hB ?_; clear hA hB A B))
    | (refine RQ.nl ?_; refine hk _ _ ?_; clear hk k)
    | (refine RW.nl ?_; refine hk _ _ ?_; clear hk k)
    | (refine RW.st fun A B hA hB => ?_; simp [abuiltin, onW_t, onW_f, onV_s]; first | (refine hA _ _ _ ?_ (by first | exact .inl (by decide) | exact .inr (.inl rfl) | exact .inr (.inr rfl)) (by first | exact .inl (by decide) | exact .inr (.inl (by decide)) | exact .inr (.inr fun s2 => by simp [abuiltin])) ?_; (focus (first | (simp [abuiltin]; done) | (simp [abuiltin]; omega))); clear hA hB A B) | (refine hB ?_; clear hA hB A B))
    | (refine RQ.st fun A B hA hB => ?_; simp [abuiltin, onW_t, onW_f, onV_s]; first | (refine hA _ _ _ ?_ (by first | exact .inl rfl | exact .inr (by decide)) ?_; (focus (first | (simp [abuiltin]; done) | (simp [abuiltin]; omega))); clear hA hB A B) | (refine hB ?_; clear hA hB A B))
    | refine WP.sr fun k hk => ?_ | refine WP.r fun k hk => ?_ | refine WP.sd _ rfl fun k hk => ?_ | refine WP.d _ rfl fun k hk => ?_
    | (refine WP.cc fun A B hA hB => ?_; simp [abuiltin, onB_t, onB_f]; first | (refine hA ?_; clear hA hB A B) | (refine hB ?_; clear hA hB A B) | (refine onB_if (fun h => hA ?_) (fun h => hB ?_) <;> clear hA hB A B))
    | refine WP.q ?_ | refine WP.b ?_)
  refine WP_loop (fun n T s' => ∃ i : Nat, n + i = l.length ∧ T.get 0 = .sl (l.map V.cs) ∧ T.get 4 = .int .i64 i ∧ s.nx ≤ s'.nx ∧
    ((i = 0 ∧ T.get 3 = .nsl) ∨ (0 < i ∧ ∃ rd, s.nx ≤ rd ∧ rd < s'.nx ∧ T.get 3 = .ls rd 0 i ∧ s'.get rd = some (.row 3 (true, 34) (((l.take i).map bareV).map V.cs))))) l.length ⟨0, by simp, by simp, by simp, by simp, .inl ⟨rfl, by simp⟩⟩ ?_
  rintro n T s' ⟨i, hni, h6, h8, hnx, hB⟩
  by_cases hi : i < l.length
  · have hw : IntKind.i64.wrap ((i : Int) + 1) = (i : Int) + 1 := wrap64 (by omega) (by omega)
    have ha : l[i]? = some l[i] := List.getElem?_eq_getElem hi
    have hlt : ((i : Int) < (l.length : Int)) := by omega
    have htk : l.take (i + 1) = l.take i ++ [l[i]] := List.take_succ_eq_append_getElem hi
    generalize hv : l[i] = v at *
    rcases hB with ⟨rfl, h3⟩ | ⟨hi0, rd, hrd, hrd2, h3, hr⟩
    · skip
      repeat' (first
        | refine WP.t ?_ | refine WP.k ?_ | refine WP.e ?_ | refine Qn ?_ | refine Qr ?_ | refine Qe ?_ | refine Bn ?_ | refine Br ?_ | refine Be ?_ | refine Bx (by decide) ?_
        | (refine RS.nl ?_; refine hk _ _ ?_; clear hk k)
        | (refine RS.st fun A B hA hB => ?_; simp [G5, pBare, decV, h3, h6, h8, hlt, hi, ha, hw, hnx, aindex, elemOfT, elemId, ti22, ti34, V.cs, abuildSlice, afill, chunks, abuiltin, alen, alenOk, ard, aappend, isSS, AV.isStr, onW_t, onW_f, onV_s]; first | (refine hA _ _ _ ?_ ?_; (focus (first | (simp [G5, pBare, decV, h3, h6, h8, hlt, hi, ha, hw, hnx, aindex, elemOfT, elemId, ti22, ti34, V.cs, abuildSlice, afill, chunks, abuiltin, alen, alenOk, ard, aappend, isSS, AV.isStr]; done) | (simp [G5, pBare, decV, h3, h6, h8, hlt, hi, ha, hw, hnx, aindex, elemOfT, elemId, ti22, ti34, V.cs, abuildSlice, afill, chunks, abuiltin, alen, alenOk, ard, aappend, isSS, AV.isStr]; omega))); clear hA hB A B) | (refine hB ?_; clear hA hB A B))
        | (refine RQ.nl ?_; refine hk _ _ ?_; clear hk k)
        | (refine RW.nl ?_; refine hk _ _ ?_; clear hk k)
        | (refine RW.st fun A B hA hB => ?_; simp [G5, pBare, decV, h3, h6, h8, hlt, hi, ha, hw, hnx, aindex, elemOfT, elemId, ti22, ti34, V.cs, abuildSlice, afill, chunks, abuiltin, alen, alenOk, ard, aappend, isSS, AV.isStr, onW_t, onW_f, onV_s]; first | (refine hA _ _ _ ?_ (by first | exact .inl (by decide) | exact .inr (.inl rfl) | exact .inr (.inr rfl)) (by first | exact .inl (by decide) | exact .inr (.inl (by decide)) | exact .inr (.inr fun s2 => by simp [G5, pBare, decV, h3, h6, h8, hlt, hi, ha, hw, hnx, aindex, elemOfT, elemId, ti22, ti34, V.cs, abuildSlice, afill, chunks, abuiltin, alen, alenOk, ard, aappend, isSS, AV.isStr])) ?_; (focus (first | (simp [G5, pBare, decV, h3, h6, h8, hlt, hi, ha, hw, hnx, aindex, elemOfT, elemId, ti22, ti34, V.cs, abuildSlice, afill, chunks, abuiltin, alen, alenOk, ard, aappend, isSS, AV.isStr]; done) | (simp [G5, pBare, decV, h3, h6, h8, hlt, hi, ha, hw, hnx, aindex, elemOfT, elemId, ti22, ti34, V.cs, abuildSlice, afill, chunks, abuiltin, alen, alenOk, ard, aappend, isSS, AV.isStr]; omega))); clear hA hB A B) | (refine hB ?_; clear hA hB A B))
        | (refine RQ.st fun A B hA hB => ?_; simp [G5, pBare, decV, h3, h6, h8, hlt, hi, ha, hw, hnx, aindex, elemOfT, elemId, ti22, ti34, V.cs, abuildSlice, afill, chunks, abuiltin, alen, alenOk, ard, aappend, isSS, AV.isStr, onW_t, onW_f, onV_s]; first | (refine hA _ _ _ ?_ (by first | exact .inl rfl | exact .inr (by decide)) ?_; (focus (first | (simp [G5, pBare, decV, h3, h6, h8, hlt, hi, ha, hw, hnx, aindex, elemOfT, elemId, ti22, ti34, V.cs, abuildSlice, afill, chunks, abuiltin, alen, alenOk, ard, aappend, isSS, AV.isStr]; done) | (simp [G5, pBare, decV, h3, h6, h8, hlt, hi, ha, hw, hnx, aindex, elemOfT, elemId, ti22, ti34, V.cs, abuildSlice, afill, chunks, abuiltin, alen, alenOk, ard, aappend, isSS, AV.isStr]; omega))); clear hA hB A B) | (refine hB ?_; clear hA hB A B))
        | refine WP.sr fun k hk => ?_ | refine WP.r fun k hk => ?_ | refine WP.sd _ rfl fun k hk => ?_ | refine WP.d _ rfl fun k hk => ?_
        | (refine WP.cc fun A B hA hB => ?_; simp [G5, pBare, decV, h3, h6, h8, hlt, hi, ha, hw, hnx, aindex, elemOfT, elemId, ti22, ti34, V.cs, abuildSlice, afill, chunks, abuiltin, alen, alenOk, ard, aappend, isSS, AV.isStr, onB_t, onB_f]; first | (refine hA ?_; clear hA hB A B) | (refine hB ?_; clear hA hB A B) | (refine onB_if (fun h => hA ?_) (fun h => hB ?_) <;> clear hA hB A B))
        | refine WP.q ?_ | refine WP.b ?_)
      refine ⟨n - 1, by omega, 1, by omega, by simp [h6], by simp [wrap64 (x := 1) (by omega) (by omega)], by simp; omega, .inr ⟨by omega, s'.nx + 1, by omega, by simp, by simp, ?_⟩⟩
      rw [htk, ← hv]
      simp [V.cs]
    · have n1 : ¬ rd = s'.nx := by omega
      have n2 : ¬ rd = s'.nx + 1 := by omega
      have hmin : min i l.length = i := by omega
      have hby : (i + 1) * 32 ≤ 140737488355328 := by omega
      repeat' (first
        | refine WP.t ?_ | refine WP.k ?_ | refine WP.e ?_ | refine Qn ?_ | refine Qr ?_ | refine Qe ?_ | refine Bn ?_ | refine Br ?_ | refine Be ?_ | refine Bx (by decide) ?_
        | (refine RS.nl ?_; refine hk _ _ ?_; clear hk k)
        | (refine RS.st fun A B hA hB => ?_; simp [G5, pBare, decV, h3, h6, h8, hlt, hi, ha, hw, hnx, aindex, elemOfT, elemId, ti22, ti34, V.cs, abuildSlice, afill, chunks, abuiltin, alen, alenOk, ard, aappend, isSS, AV.isStr, hr, n1, n2, hmin, hby, hrd, onW_t, onW_f, onV_s]; first | (refine hA _ _ _ ?_ ?_; (focus (first | (simp [G5, pBare, decV, h3, h6, h8, hlt, hi, ha, hw, hnx, aindex, elemOfT, elemId, ti22, ti34, V.cs, abuildSlice, afill, chunks, abuiltin, alen, alenOk, ard, aappend, isSS, AV.isStr, hr, n1, n2, hmin, hby, hrd]; done) | (simp [G5, pBare, decV, h3, h6, h8, hlt, hi, ha, hw, hnx, aindex, elemOfT, elemId, ti22, ti34, V.cs, abuildSlice, afill, chunks, abuiltin, alen, alenOk, ard, aappend, isSS, AV.isStr, hr, n1, n2, hmin, hby, hrd]; omega))); clear hA hB A B) | (refine hB ?_; clear hA hB A B))
        | (refine RQ.nl ?_; refine hk _ _ ?_; clear hk k)
        | (refine RW.nl ?_; refine hk _ _ ?_; clear hk k)
        | (refine RW.st fun A B hA hB => ?_; simp [G5, pBare, decV, h3, h6, h8, hlt, hi, ha, hw, hnx, aindex, elemOfT, elemId, ti22, ti34, V.cs, abuildSlice, afill, chunks, abuiltin, alen, alenOk, ard, aappend, isSS, AV.isStr, hr, n1, n2, hmin, hby, hrd, onW_t, onW_f, onV_s]; first | (refine hA _ _ _ ?_ (by first | exact .inl (by decide) | exact .inr (.inl rfl) | exact .inr (.inr rfl)) (by first | exact .inl (by decide) | exact .inr (.inl (by decide)) | exact .inr (.inr fun s2 => by simp [G5, pBare, decV, h3, h6, h8, hlt, hi, ha, hw, hnx, aindex, elemOfT, elemId, ti22, ti34, V.cs, abuildSlice, afill, chunks, abuiltin, alen, alenOk, ard, aappend, isSS, AV.isStr, hr, n1, n2, hmin, hby, hrd])) ?_; (focus (first | (simp [G5, pBare, decV, h3, h6, h8, hlt, hi, ha, hw, hnx, aindex, elemOfT, elemId, ti22, ti34, V.cs, abuildSlice, afill, chunks, abuiltin, alen, alenOk, ard, aappend, isSS, AV.isStr, hr, n1, n2, hmin, hby, hrd]; done) | (simp [G5, pBare, decV, h3, h6, h8, hlt, hi, ha, hw, hnx, aindex, elemOfT, elemId, ti22, ti34, V.cs, abuildSlice, afill, chunks, abuiltin, alen, alenOk, ard, aappend, isSS, AV.isStr, hr, n1, n2, hmin, hby, hrd]; omega))); clear hA hB A B) | (refine hB ?_; clear hA hB A B))
        | (refine RQ.st fun A B hA hB => ?_; simp [G5, pBare, decV, h3, h6, h8, hlt, hi, ha, hw, hnx, aindex, elemOfT, elemId, ti22, ti34, V.cs, abuildSlice, afill, chunks, abuiltin, alen, alenOk, ard, aappend, isSS, AV.isStr, hr, n1, n2, hmin, hby, hrd, onW_t, onW_f, onV_s]; first | (refine hA _ _ _ ?_ (by first | exact .inl rfl | exact .inr (by decide)) ?_; (focus (first | (simp [G5, pBare, decV, h3, h6, h8, hlt, hi, ha, hw, hnx, aindex, elemOfT, elemId, ti22, ti34, V.cs, abuildSlice, afill, chunks, abuiltin, alen, alenOk, ard, aappend, isSS, AV.isStr, hr, n1, n2, hmin, hby, hrd]; done) | (simp [G5, pBare, decV, h3, h6, h8, hlt, hi, ha, hw, hnx, aindex, elemOfT, elemId, ti22, ti34, V.cs, abuildSlice, afill, chunks, abuiltin, alen, alenOk, ard, aappend, isSS, AV.isStr, hr, n1, n2, hmin, hby, hrd]; omega))); clear hA hB A B) | (refine hB ?_; clear hA hB A B))
        | refine WP.sr fun k hk => ?_ | refine WP.r fun k hk => ?_ | refine WP.sd _ rfl fun k hk => ?_ | refine WP.d _ rfl fun k hk => ?_
        | (refine WP.cc fun A B hA hB => ?_; simp [G5, pBare, decV, h3, h6, h8, hlt, hi, ha, hw, hnx, aindex, elemOfT, elemId, ti22, ti34, V.cs, abuildSlice, afill, chunks, abuiltin, alen, alenOk, ard, aappend, isSS, AV.isStr, hr, n1, n2, hmin, hby, hrd, onB_t, onB_f]; first | (refine hA ?_; clear hA hB A B) | (refine hB ?_; clear hA hB A B) | (refine onB_if (fun h => hA ?_) (fun h => hB ?_) <;> clear hA hB A B))
        | refine WP.q ?_ | refine WP.b ?_)
      refine ⟨n - 1, by omega, i + 1, by omega, by simp [h6], by simp, by simp; omega, .inr ⟨by omega, s'.nx + 1, by omega, by simp, by simp, ?_⟩⟩
      have e2 : ∀ s2 : St, s2.nx = s'.nx + 1 → ∀ o, (s2.push o).get (s'.nx + 1) = some o := fun s2 h o => by rw [← h]; exact St.get_push_same _ _
      rw [e2 _ (by simp), htk, ← hv]
      simp only [List.map_append, List.map_cons, List.map_nil]
      have e3 : List.map V.cs (List.map bareV (List.take i l)) = List.take i (List.map (V.cs ∘ bareV) l) := by simp
      rw [e3]
      rfl
  · have hlt : ¬ ((i : Int) < (l.length : Int)) := by omega
    have he : i = l.length := by omega
    repeat' (first
      | refine WP.t ?_ | refine WP.k ?_ | refine WP.e ?_ | refine Qn ?_ | refine Qr ?_ | refine Qe ?_ | refine Bn ?_ | refine Br ?_ | refine Be ?_ | refine Bx (by decide) ?_
      | (refine RS.nl ?_; refine hk _ _ ?_; clear hk k)
      | (refine RS.st fun A B hA hB => ?_; simp [h6, h8, hlt, abuiltin, alen, alenOk, ti22, onW_t, onW_f, onV_s]; first | (refine hA _ _ _ ?_ ?_; (focus (first | (simp [h6, h8, hlt, abuiltin, alen, alenOk, ti22]; done) | (simp [h6, h8, hlt, abuiltin, alen, alenOk, ti22]; omega))); clear hA hB A B) | (refine hB ?_; clear hA hB A B))
      | (refine RQ.nl ?_; refine hk _ _ ?_; clear hk k)
      | (refine RW.nl ?_; refine hk _ _ ?_; clear hk k)
      | (refine RW.st fun A B hA hB => ?_; simp [h6, h8, hlt, abuiltin, alen, alenOk, ti22, onW_t, onW_f, onV_s]; first | (refine hA _ _ _ ?_ (by first | exact .inl (by decide) | exact .inr (.inl rfl) | exact .inr (.inr rfl)) (by first | exact .inl (by decide) | exact .inr (.inl (by decide)) | exact .inr (.inr fun s2 => by simp [h6, h8, hlt, abuiltin, alen, alenOk, ti22])) ?_; (focus (first | (simp [h6, h8, hlt, abuiltin, alen, alenOk, ti22]; done) | (simp [h6, h8, hlt, abuiltin, alen, alenOk, ti22]; omega))); clear hA hB A B) | (refine hB ?_; clear hA hB A B))
      | (refine RQ.st fun A B hA hB => ?_; simp [h6, h8, hlt, abuiltin, alen, alenOk, ti22, onW_t, onW_f, onV_s]; first | (refine hA _ _ _ ?_ (by first | exact .inl rfl | exact .inr (by decide)) ?_; (focus (first | (simp [h6, h8, hlt, abuiltin, alen, alenOk, ti22]; done) | (simp [h6, h8, hlt, abuiltin, alen, alenOk, ti22]; omega))); clear hA hB A B) | (refine hB ?_; clear hA hB A B))
      | refine WP.sr fun k hk => ?_ | refine WP.r fun k hk => ?_ | refine WP.sd _ rfl fun k hk => ?_ | refine WP.d _ rfl fun k hk => ?_
      | (refine WP.cc fun A B hA hB => ?_; simp [h6, h8, hlt, abuiltin, alen, alenOk, ti22, onB_t, onB_f]; first | (refine hA ?_; clear hA hB A B) | (refine hB ?_; clear hA hB A B) | (refine onB_if (fun h => hA ?_) (fun h => hB ?_) <;> clear hA hB A B))
      | refine WP.q ?_ | refine WP.b ?_)
    rcases hB with ⟨h0, h3⟩ | ⟨hi0, rd, hrd, hrd2, h3, hr⟩
    · have : l = [] := List.eq_nil_of_length_eq_zero (by omega)
      subst this
      exact ⟨.inr rfl, .nsl, by simp [h3], .nil⟩
    · have ht : l.take i = l := by rw [he, List.take_length]
      rw [ht] at hr
      refine ⟨.inr rfl, .ls rd 0 i, by simp [h3], ?_⟩
      have hlen : i = (List.map V.cs (List.map bareV l)).length := by simp [he]
      rw [hlen]
      refine .row rd 3 _ _ _ hr hrd rfl (fun e he => ?_) (fun i j y hy => ⟨y, hy⟩) (fun i j x y hx hy => ?_)
      · obtain ⟨v, _, rfl⟩ := List.mem_map.1 he; rfl
      · rw [hx] at hy
        obtain rfl := Option.some.inj hy
        refine .same x ?_
        have : Below s.nx (.sl (List.map V.cs (List.map bareV l))) := by simp [V.cs]
        cases this with
        | sl _ h => exact h i j x hx
theorem ft22 (l : List V) (c : List Int) (hl : l.length < 1073741824) (hc : c.length < 1073741824) : FT (env K gw) NoW 22 [.sl (l.map V.cs), .sl (ints c)] s (projT l c) s := by
  refine FT.data (fn := Tryd.f22) F0_ok mixed Tryd.func22 (by kernel_rfl) (by rfl) rfl rfl (by simp) rfl fun μ w => ?_
  repeat' (first
    | refine WP.t ?_ | refine WP.k ?_ | refine WP.e ?_ | refine Qn ?_ | refine Qr ?_ | refine Qe ?_ | refine Bn ?_ | refine Br ?_ | refine Be ?_ | refine Bx (by decide) ?_
    | (refine RS.nl ?_; refine hk _ _ ?_; clear hk k)
    | (refine RS.st fun A B hA hB => ?_; simp [abuiltin, alenOk, alen, ti27, ints, onW_t, onW_f, onV_s]; first | (refine hA _ _ _ ?_ ?_; (focus (first | (simp [abuiltin, alenOk, alen, ti27, ints]; done) | (simp [abuiltin, alenOk, alen, ti27, ints]; omega))); clear hA hB A B) | (refine hB ?_; clear hA hB A B))
    | (refine RQ.nl ?_; refine hk _ _ ?_; clear hk k)
    | (refine RW.nl ?_; refine hk _ _ ?_; clear hk k)
    | (refine RW.st fun A B hA hB => ?_; simp [abuiltin, alenOk, alen, ti27, ints, onW_t, onW_f, onV_s]; first | (refine hA _ _ _ ?_ (by first | exact .inl (by decide) | exact .inr (.inl rfl) | exact .inr (.inr rfl)) (by first | exact .inl (by decide) | exact .inr (.inl (by decide)) | exact .inr (.inr fun s2 => by simp [abuiltin, alenOk, alen, ti27, ints])) ?_; (focus (first | (simp [abuiltin, alenOk, alen, ti27, ints]; done) | (simp [abuiltin, alenOk, alen, ti27, ints]; omega))); clear hA hB A B) | (refine hB ?_; clear hA hB A B))
    | (refine RQ.st fun A B hA hB => ?_; simp [abuiltin, alenOk, alen, ti27, ints, onW_t, onW_f, onV_s]; first | (refine hA _ _ _ ?_ (by first | exact .inl rfl | exact .inr (by decide)) ?_; (focus (first | (simp [abuiltin, alenOk, alen, ti27, ints]; done) | (simp [abuiltin, alenOk, alen, ti27, ints]; omega))); clear hA hB A B) | (refine hB ?_; clear hA hB A B))
    | refine WP.sr fun k hk => ?_ | refine WP.r fun k hk => ?_ | refine WP.sd _ rfl fun k hk => ?_ | refine WP.d _ rfl fun k hk => ?_
    | (refine WP.cc fun A B hA hB => ?_; simp [abuiltin, alenOk, alen, ti27, ints, onB_t, onB_f]; first | (refine hA ?_; clear hA hB A B) | (refine hB ?_; clear hA hB A B) | (refine onB_if (fun h => hA ?_) (fun h => hB ?_) <;> clear hA hB A B))
    | refine WP.q ?_ | refine WP.b ?_)
  refine WP_loop (fun n T s' => ∃ i : Nat, n + i = c.length ∧ T.get 0 = .sl (l.map V.cs) ∧ T.get 1 = .sl (ints c) ∧ T.get 7 = .int .i64 i ∧ s.nx ≤ s'.nx ∧ (c.take i).all (okI l) = true ∧
    ((i = 0 ∧ T.get 6 = .nsl) ∨ (0 < i ∧ ∃ rd, s.nx ≤ rd ∧ rd < s'.nx ∧ T.get 6 = .ls rd 0 i ∧ s'.get rd = some (.row 3 (true, 34) (((c.take i).map (getI l)).map V.cs))))) c.length ⟨0, by simp, by simp, by simp [ints], by simp, by simp, by simp, .inl ⟨rfl, by simp⟩⟩ ?_
  rintro n T s' ⟨i, hni, h0, h9, h11, hnx, hok, hB⟩
  by_cases hi : i < c.length
  · have hw : IntKind.i64.wrap ((i : Int) + 1) = (i : Int) + 1 := wrap64 (by omega) (by omega)
    have ha : c[i]? = some c[i] := List.getElem?_eq_getElem hi
    have hai : (ints c)[i]? = some [.int .i64 c[i]] := by simp [ints, ha]
    have hil : (ints c).length = c.length := by simp [ints]
    have hlt : ((i : Int) < (c.length : Int)) := by omega
    have htk : c.take (i + 1) = c.take i ++ [c[i]] := List.take_succ_eq_append_getElem hi
    have hmem : c[i] ∈ c := List.getElem_mem hi
    generalize hv : c[i] = j at *
    by_cases hbad : okI l j = true
    · have hj : 0 ≤ j ∧ j < l.length := by simpa [okI] using hbad
      have hj0 : ¬ j < 0 := by omega
      have hj1 : ¬ (l.length : Int) ≤ j := by omega
      have hj2 : j.toNat < l.length := by omega
      have hjj : j < (l.length : Int) := hj.2
      have hjp : 0 ≤ j := hj.1
      have hl2 : l[j.toNat]? = some (getI l j) := by
        have : l[j.toNat]? = some l[j.toNat] := List.getElem?_eq_getElem hj2
        simp only [getI, this]; rfl
      have hok2 : (c.take (i + 1)).all (okI l) = true := by
        rw [htk, List.all_append, hok]; simp [hbad]
      generalize hg : getI l j = g at *
      have hg2 : l[j.toNat] = g := by
        have := List.getElem?_eq_getElem hj2
        rw [this] at hl2
        exact Option.some.inj hl2
      rcases hB with ⟨rfl, h3⟩ | ⟨hi0, rd, hrd, hrd2, h3, hr⟩
      · skip
        repeat' (first
          | refine WP.t ?_ | refine WP.k ?_ | refine WP.e ?_ | refine Qn ?_ | refine Qr ?_ | refine Qe ?_ | refine Bn ?_ | refine Br ?_ | refine Be ?_ | refine Bx (by decide) ?_
          | (refine RS.nl ?_; refine hk _ _ ?_; clear hk k)
          | (refine RS.st fun A B hA hB => ?_; simp [h0, h3, h9, h11, hlt, hi, ha, hv, ints, hw, hnx, hj0, hj1, hj2, hjj, hjp, hl2, aindex, elemOfT, elemId, ti27, ti3, ti22, ti34, V.cs, abuildSlice, afill, chunks, abuiltin, alen, alenOk, ard, aappend, isSS, AV.isStr, hg2, onW_t, onW_f, onV_s]; first | (refine hA _ _ _ ?_ ?_; (focus (first | (simp [h0, h3, h9, h11, hlt, hi, ha, hv, ints, hw, hnx, hj0, hj1, hj2, hjj, hjp, hl2, aindex, elemOfT, elemId, ti27, ti3, ti22, ti34, V.cs, abuildSlice, afill, chunks, abuiltin, alen, alenOk, ard, aappend, isSS, AV.isStr, hg2]; done) | (simp [h0, h3, h9, h11, hlt, hi, ha, hv, ints, hw, hnx, hj0, hj1, hj2, hjj, hjp, hl2, aindex, elemOfT, elemId, ti27, ti3, ti22, ti34, V.cs, abuildSlice, afill, chunks, abuiltin, alen, alenOk, ard, aappend, isSS, AV.isStr, hg2]; omega))); clear hA hB A B) | (refine hB ?_; clear hA hB A B))
          | (refine RQ.nl ?_; refine hk _ _ ?_; clear hk k)
          | (refine RW.nl ?_; refine hk _ _ ?_; clear hk k)
          | (refine RW.st fun A B hA hB => ?_; simp [h0, h3, h9, h11, hlt, hi, ha, hv, ints, hw, hnx, hj0, hj1, hj2, hjj, hjp, hl2, aindex, elemOfT, elemId, ti27, ti3, ti22, ti34, V.cs, abuildSlice, afill, chunks, abuiltin, alen, alenOk, ard, aappend, isSS, AV.isStr, hg2, onW_t, onW_f, onV_s]; first | (refine hA _ _ _ ?_ (by first | exact .inl (by decide) | exact .inr (.inl rfl) | exact .inr (.inr rfl)) (by first | exact .inl (by decide) | exact .inr (.inl (by decide)) | exact .inr (.inr fun s2 => by simp [h0, h3, h9, h11, hlt, hi, ha, hv, ints, hw, hnx, hj0, hj1, hj2, hjj, hjp, hl2, aindex, elemOfT, elemId, ti27, ti3, ti22, ti34, V.cs, abuildSlice, afill, chunks, abuiltin, alen, alenOk, ard, aappend, isSS, AV.isStr, hg2])) ?_; (focus (first | (simp [h0, h3, h9, h11, hlt, hi, ha, hv, ints, hw, hnx, hj0, hj1, hj2, hjj, hjp, hl2, aindex, elemOfT, elemId, ti27, ti3, ti22, ti34, V.cs, abuildSlice, afill, chunks, abuiltin, alen, alenOk, ard, aappend, isSS, AV.isStr, hg2]; done) | (simp [h0, h3, h9, h11, hlt, hi, ha, hv, ints, hw, hnx, hj0, hj1, hj2, hjj, hjp, hl2, aindex, elemOfT, elemId, ti27, ti3, ti22, ti34, V.cs, abuildSlice, afill, chunks, abuiltin, alen, alenOk, ard, aappend, isSS, AV.isStr, hg2]; omega))); clear hA hB A B) | (refine hB ?_; clear hA hB A B))
          | (refine RQ.st fun A B hA hB => ?_; simp [h0, h3, h9, h11, hlt, hi, ha, hv, ints, hw, hnx, hj0, hj1, hj2, hjj, hjp, hl2, aindex, elemOfT, elemId, ti27, ti3, ti22, ti34, V.cs, abuildSlice, afill, chunks, abuiltin, alen, alenOk, ard, aappend, isSS, AV.isStr, hg2, onW_t, onW_f, onV_s]; first | (refine hA _ _ _ ?_ (by first | exact .inl rfl | exact .inr (by decide)) ?_; (focus (first | (simp [h0, h3, h9, h11, hlt, hi, ha, hv, ints, hw, hnx, hj0, hj1, hj2, hjj, hjp, hl2, aindex, elemOfT, elemId, ti27, ti3, ti22, ti34, V.cs, abuildSlice, afill, chunks, abuiltin, alen, alenOk, ard, aappend, isSS, AV.isStr, hg2]; done) | (simp [h0, h3, h9, h11, hlt, hi, ha, hv, ints, hw, hnx, hj0, hj1, hj2, hjj, hjp, hl2, aindex, elemOfT, elemId, ti27, ti3, ti22, ti34, V.cs, abuildSlice, afill, chunks, abuiltin, alen, alenOk, ard, aappend, isSS, AV.isStr, hg2]; omega))); clear hA hB A B) | (refine hB ?_; clear hA hB A B))
          | refine WP.sr fun k hk => ?_ | refine WP.r fun k hk => ?_ | refine WP.sd _ rfl fun k hk => ?_ | refine WP.d _ rfl fun k hk => ?_
          | (refine WP.cc fun A B hA hB => ?_; simp [h0, h3, h9, h11, hlt, hi, ha, hv, ints, hw, hnx, hj0, hj1, hj2, hjj, hjp, hl2, aindex, elemOfT, elemId, ti27, ti3, ti22, ti34, V.cs, abuildSlice, afill, chunks, abuiltin, alen, alenOk, ard, aappend, isSS, AV.isStr, hg2, onB_t, onB_f]; first | (refine hA ?_; clear hA hB A B) | (refine hB ?_; clear hA hB A B) | (refine onB_if (fun h => hA ?_) (fun h => hB ?_) <;> clear hA hB A B))
          | refine WP.q ?_ | refine WP.b ?_)
        refine ⟨n - 1, by omega, 1, by omega, by simp [h0], by simp [h9, ints], by simp [wrap64 (x := 1) (by omega) (by omega)], by simp; omega, hok2, .inr ⟨by omega, s'.nx + 1, by omega, by simp, by simp, ?_⟩⟩
        rw [htk]
        simp [V.cs, hg]
      · have n1 : ¬ rd = s'.nx := by omega
        have n2 : ¬ rd = s'.nx + 1 := by omega
        have hmin : min i c.length = i := by omega
        have hby : (i + 1) * 32 ≤ 140737488355328 := by omega
        repeat' (first
          | refine WP.t ?_ | refine WP.k ?_ | refine WP.e ?_ | refine Qn ?_ | refine Qr ?_ | refine Qe ?_ | refine Bn ?_ | refine Br ?_ | refine Be ?_ | refine Bx (by decide) ?_
          | (refine RS.nl ?_; refine hk _ _ ?_; clear hk k)
          | (refine RS.st fun A B hA hB => ?_; simp [h0, h3, h9, h11, hlt, hi, ha, hv, ints, hw, hnx, hj0, hj1, hj2, hjj, hjp, hl2, aindex, elemOfT, elemId, ti27, ti3, ti22, ti34, V.cs, abuildSlice, afill, chunks, abuiltin, alen, alenOk, ard, aappend, isSS, AV.isStr, hg2, hr, n1, n2, hmin, hby, hrd, onW_t, onW_f, onV_s]; first | (refine hA _ _ _ ?_ ?_; (focus (first | (simp [h0, h3, h9, h11, hlt, hi, ha, hv, ints, hw, hnx, hj0, hj1, hj2, hjj, hjp, hl2, aindex, elemOfT, elemId, ti27, ti3, ti22, ti34, V.cs, abuildSlice, afill, chunks, abuiltin, alen, alenOk, ard, aappend, isSS, AV.isStr, hg2, hr, n1, n2, hmin, hby, hrd]; done) | (simp [h0, h3, h9, h11, hlt, hi, ha, hv, ints, hw, hnx, hj0, hj1, hj2, hjj, hjp, hl2, aindex, elemOfT, elemId, ti27, ti3, ti22, ti34, V.cs, abuildSlice, afill, chunks, abuiltin, alen, alenOk, ard, aappend, isSS, AV.isStr, hg2, hr, n1, n2, hmin, hby, hrd]; omega))); clear hA hB A B) | (refine hB ?_; clear hA hB A B))
          | (refine RQ.nl ?_; refine hk _ _ ?_; clear hk k)
          | (refine RW.nl ?_; refine hk _ _ ?_; clear hk k)
          | (refine RW.st fun A B hA hB => ?_; simp [h0, h3, h9, h11, hlt, hi, ha, hv, ints, hw, hnx, hj0, hj1, hj2, hjj, hjp, hl2, aindex, elemOfT, elemId, ti27, ti3, ti22, ti34, V.cs, abuildSlice, afill, chunks, abuiltin, alen, alenOk, ard, aappend, isSS, AV.isStr, hg2, hr, n1, n2, hmin, hby, hrd, onW_t, onW_f, onV_s]; first | (refine hA _ _ _ ?_ (by first | exact .inl (by decide) | exact .inr (.inl rfl) | exact .inr (.inr rfl)) (by first | exact .inl (by decide) | exact .inr (.inl (by decide)) | exact .inr (.inr fun s2 => by simp [h0, h3, h9, h11, hlt, hi, ha, hv, ints, hw, hnx, hj0, hj1, hj2, hjj, hjp, hl2, aindex, elemOfT, elemId, ti27, ti3, ti22, ti34, V.cs, abuildSlice, afill, chunks, abuiltin, alen, alenOk, ard, aappend, isSS, AV.isStr, hg2, hr, n1, n2, hmin, hby, hrd])) ?_; (focus (first | (simp [h0, h3, h9, h11, hlt, hi, ha, hv, ints, hw, hnx, hj0, hj1, hj2, hjj, hjp, hl2, aindex, elemOfT, elemId, ti27, ti3, ti22, ti34, V.cs, abuildSlice, afill, chunks, abuiltin, alen, alenOk, ard, aappend, isSS, AV.isStr, hg2, hr, n1, n2, hmin, hby, hrd]; done) | (simp [h0, h3, h9, h11, hlt, hi, ha, hv, ints, hw, hnx, hj0, hj1, hj2, hjj, hjp, hl2, aindex, elemOfT, elemId, ti27, ti3, ti22, ti34, V.cs, abuildSlice, afill, chunks, abuiltin, alen, alenOk, ard, aappend, isSS, AV.isStr, hg2, hr, n1, n2, hmin, hby, hrd]; omega))); clear hA hB A B) | (refine hB ?_; clear hA hB A B))
          | (refine RQ.st fun A B hA hB => ?_; simp [h0, h3, h9, h11, hlt, hi, ha, hv, ints, hw, hnx, hj0, hj1, hj2, hjj, hjp, hl2, aindex, elemOfT, elemId, ti27, ti3, ti22, ti34, V.cs, abuildSlice, afill, chunks, abuiltin, alen, alenOk, ard, aappend, isSS, AV.isStr, hg2, hr, n1, n2, hmin, hby, hrd, onW_t, onW_f, onV_s]; first | (refine hA _ _ _ ?_ (by first | exact .inl rfl | exact .inr (by decide)) ?_; (focus (first | (simp [h0, h3, h9, h11, hlt, hi, ha, hv, ints, hw, hnx, hj0, hj1, hj2, hjj, hjp, hl2, aindex, elemOfT, elemId, ti27, ti3, ti22, ti34, V.cs, abuildSlice, afill, chunks, abuiltin, alen, alenOk, ard, aappend, isSS, AV.isStr, hg2, hr, n1, n2, hmin, hby, hrd]; done) | (simp [h0, h3, h9, h11, hlt, hi, ha, hv, ints, hw, hnx, hj0, hj1, hj2, hjj, hjp, hl2, aindex, elemOfT, elemId, ti27, ti3, ti22, ti34, V.cs, abuildSlice, afill, chunks, abuiltin, alen, alenOk, ard, aappend, isSS, AV.isStr, hg2, hr, n1, n2, hmin, hby, hrd]; omega))); clear hA hB A B) | (refine hB ?_; clear hA hB A B))
          | refine WP.sr fun k hk => ?_ | refine WP.r fun k hk => ?_ | refine WP.sd _ rfl fun k hk => ?_ | refine WP.d _ rfl fun k hk => ?_
          | (refine WP.cc fun A B hA hB => ?_; simp [h0, h3, h9, h11, hlt, hi, ha, hv, ints, hw, hnx, hj0, hj1, hj2, hjj, hjp, hl2, aindex, elemOfT, elemId, ti27, ti3, ti22, ti34, V.cs, abuildSlice, afill, chunks, abuiltin, alen, alenOk, ard, aappend, isSS, AV.isStr, hg2, hr, n1, n2, hmin, hby, hrd, onB_t, onB_f]; first | (refine hA ?_; clear hA hB A B) | (refine hB ?_; clear hA hB A B) | (refine onB_if (fun h => hA ?_) (fun h => hB ?_) <;> clear hA hB A B))
          | refine WP.q ?_ | refine WP.b ?_)
        refine ⟨n - 1, by omega, i + 1, by omega, by simp [h0], by simp [h9, ints], by simp, by simp; omega, hok2, .inr ⟨by omega, s'.nx + 1, by omega, by simp, by simp, ?_⟩⟩
        have e2 : ∀ s2 : St, s2.nx = s'.nx + 1 → ∀ o, (s2.push o).get (s'.nx + 1) = some o := fun s2 h o => by rw [← h]; exact St.get_push_same _ _
        rw [e2 _ (by simp), htk]
        simp only [List.map_append, List.map_cons, List.map_nil, hg]
        have e3 : List.map V.cs (List.map (getI l) (List.take i c)) = List.take i (List.map (V.cs ∘ getI l) c) := by simp
        rw [e3]
        rfl
    · have hj : j < 0 ∨ (0 ≤ j ∧ (l.length : Int) ≤ j) := by
        simp [okI] at hbad
        omega
      have hres : projT l c = .tup [.sl [], .int .i64 1] := by
        unfold projT
        rw [if_neg]
        intro h
        exact hbad (List.all_eq_true.1 h j hmem)
      rw [hres]
      rcases hj with hj | ⟨hj, hj1⟩
      · skip
        repeat' (first
          | refine WP.t ?_ | refine WP.k ?_ | refine WP.e ?_ | refine Qn ?_ | refine Qr ?_ | refine Qe ?_ | refine Bn ?_ | refine Br ?_ | refine Be ?_ | refine Bx (by decide) ?_
          | (refine RS.nl ?_; refine hk _ _ ?_; clear hk k)
          | (refine RS.st fun A B hA hB => ?_; simp [h0, h9, h11, hlt, hi, ha, hv, ints, hj, aindex, elemOfT, ti27, ti3, ti22, alen, alenOk, abuiltin, onW_t, onW_f, onV_s]; first | (refine hA _ _ _ ?_ ?_; (focus (first | (simp [h0, h9, h11, hlt, hi, ha, hv, ints, hj, aindex, elemOfT, ti27, ti3, ti22, alen, alenOk, abuiltin]; done) | (simp [h0, h9, h11, hlt, hi, ha, hv, ints, hj, aindex, elemOfT, ti27, ti3, ti22, alen, alenOk, abuiltin]; omega))); clear hA hB A B) | (refine hB ?_; clear hA hB A B))
          | (refine RQ.nl ?_; refine hk _ _ ?_; clear hk k)
          | (refine RW.nl ?_; refine hk _ _ ?_; clear hk k)
          | (refine RW.st fun A B hA hB => ?_; simp [h0, h9, h11, hlt, hi, ha, hv, ints, hj, aindex, elemOfT, ti27, ti3, ti22, alen, alenOk, abuiltin, onW_t, onW_f, onV_s]; first | (refine hA _ _ _ ?_ (by first | exact .inl (by decide) | exact .inr (.inl rfl) | exact .inr (.inr rfl)) (by first | exact .inl (by decide) | exact .inr (.inl (by decide)) | exact .inr (.inr fun s2 => by simp [h0, h9, h11, hlt, hi, ha, hv, ints, hj, aindex, elemOfT, ti27, ti3, ti22, alen, alenOk, abuiltin])) ?_; (focus (first | (simp [h0, h9, h11, hlt, hi, ha, hv, ints, hj, aindex, elemOfT, ti27, ti3, ti22, alen, alenOk, abuiltin]; done) | (simp [h0, h9, h11, hlt, hi, ha, hv, ints, hj, aindex, elemOfT, ti27, ti3, ti22, alen, alenOk, abuiltin]; omega))); clear hA hB A B) | (refine hB ?_; clear hA hB A B))
          | (refine RQ.st fun A B hA hB => ?_; simp [h0, h9, h11, hlt, hi, ha, hv, ints, hj, aindex, elemOfT, ti27, ti3, ti22, alen, alenOk, abuiltin, onW_t, onW_f, onV_s]; first | (refine hA _ _ _ ?_ (by first | exact .inl rfl | exact .inr (by decide)) ?_; (focus (first | (simp [h0, h9, h11, hlt, hi, ha, hv, ints, hj, aindex, elemOfT, ti27, ti3, ti22, alen, alenOk, abuiltin]; done) | (simp [h0, h9, h11, hlt, hi, ha, hv, ints, hj, aindex, elemOfT, ti27, ti3, ti22, alen, alenOk, abuiltin]; omega))); clear hA hB A B) | (refine hB ?_; clear hA hB A B))
          | refine WP.sr fun k hk => ?_ | refine WP.r fun k hk => ?_ | refine WP.sd _ rfl fun k hk => ?_ | refine WP.d _ rfl fun k hk => ?_
          | (refine WP.cc fun A B hA hB => ?_; simp [h0, h9, h11, hlt, hi, ha, hv, ints, hj, aindex, elemOfT, ti27, ti3, ti22, alen, alenOk, abuiltin, onB_t, onB_f]; first | (refine hA ?_; clear hA hB A B) | (refine hB ?_; clear hA hB A B) | (refine onB_if (fun h => hA ?_) (fun h => hB ?_) <;> clear hA hB A B))
          | refine WP.q ?_ | refine WP.b ?_)
        exact ⟨.inr rfl, .tup [.nsl, .int .i64 1], by simp, frz_bad⟩
      · have hj0 : ¬ j < 0 := by omega
        repeat' (first
          | refine WP.t ?_ | refine WP.k ?_ | refine WP.e ?_ | refine Qn ?_ | refine Qr ?_ | refine Qe ?_ | refine Bn ?_ | refine Br ?_ | refine Be ?_ | refine Bx (by decide) ?_
          | (refine RS.nl ?_; refine hk _ _ ?_; clear hk k)
          | (refine RS.st fun A B hA hB => ?_; simp [h0, h9, h11, hlt, hi, ha, hv, ints, hj, hj0, hj1, aindex, elemOfT, ti27, ti3, ti22, alen, alenOk, abuiltin, onW_t, onW_f, onV_s]; first | (refine hA _ _ _ ?_ ?_; (focus (first | (simp [h0, h9, h11, hlt, hi, ha, hv, ints, hj, hj0, hj1, aindex, elemOfT, ti27, ti3, ti22, alen, alenOk, abuiltin]; done) | (simp [h0, h9, h11, hlt, hi, ha, hv, ints, hj, hj0, hj1, aindex, elemOfT, ti27, ti3, ti22, alen, alenOk, abuiltin]; omega))); clear hA hB A B) | (refine hB ?_; clear hA hB A B))
          | (refine RQ.nl ?_; refine hk _ _ ?_; clear hk k)
          | (refine RW.nl ?_; refine hk _ _ ?_; clear hk k)
          | (refine RW.st fun A B hA hB => ?_; simp [h0, h9, h11, hlt, hi, ha, hv, ints, hj, hj0, hj1, aindex, elemOfT, ti27, ti3, ti22, alen, alenOk, abuiltin, onW_t, onW_f, onV_s]; first | (refine hA _ _ _ ?_ (by first | exact .inl (by decide) | exact .inr (.inl rfl) | exact .inr (.inr rfl)) (by first | exact .inl (by decide) | exact .inr (.inl (by decide)) | exact .inr (.inr fun s2 => by simp [h0, h9, h11, hlt, hi, ha, hv, ints, hj, hj0, hj1, aindex, elemOfT, ti27, ti3, ti22, alen, alenOk, abuiltin])) ?_; (focus (first | (simp [h0, h9, h11, hlt, hi, ha, hv, ints, hj, hj0, hj1, aindex, elemOfT, ti27, ti3, ti22, alen, alenOk, abuiltin]; done) | (simp [h0, h9, h11, hlt, hi, ha, hv, ints, hj, hj0, hj1, aindex, elemOfT, ti27, ti3, ti22, alen, alenOk, abuiltin]; omega))); clear hA hB A B) | (refine hB ?_; clear hA hB A B))
          | (refine RQ.st fun A B hA hB => ?_; simp [h0, h9, h11, hlt, hi, ha, hv, ints, hj, hj0, hj1, aindex, elemOfT, ti27, ti3, ti22, alen, alenOk, abuiltin, onW_t, onW_f, onV_s]; first | (refine hA _ _ _ ?_ (by first | exact .inl rfl | exact .inr (by decide)) ?_; (focus (first | (simp [h0, h9, h11, hlt, hi, ha, hv, ints, hj, hj0, hj1, aindex, elemOfT, ti27, ti3, ti22, alen, alenOk, abuiltin]; done) | (simp [h0, h9, h11, hlt, hi, ha, hv, ints, hj, hj0, hj1, aindex, elemOfT, ti27, ti3, ti22, alen, alenOk, abuiltin]; omega))); clear hA hB A B) | (refine hB ?_; clear hA hB A B))
          | refine WP.sr fun k hk => ?_ | refine WP.r fun k hk => ?_ | refine WP.sd _ rfl fun k hk => ?_ | refine WP.d _ rfl fun k hk => ?_
          | (refine WP.cc fun A B hA hB => ?_; simp [h0, h9, h11, hlt, hi, ha, hv, ints, hj, hj0, hj1, aindex, elemOfT, ti27, ti3, ti22, alen, alenOk, abuiltin, onB_t, onB_f]; first | (refine hA ?_; clear hA hB A B) | (refine hB ?_; clear hA hB A B) | (refine onB_if (fun h => hA ?_) (fun h => hB ?_) <;> clear hA hB A B))
          | refine WP.q ?_ | refine WP.b ?_)
        exact ⟨.inr rfl, .tup [.nsl, .int .i64 1], by simp, frz_bad⟩
  · have hlt : ¬ ((i : Int) < (c.length : Int)) := by omega
    have he : i = c.length := by omega
    have ht : c.take i = c := by rw [he, List.take_length]
    rw [ht] at hok hB
    have hres : projT l c = .tup [.sl ((c.map (getI l)).map V.cs), .int .i64 0] := by
      unfold projT
      rw [if_pos hok]
    rw [hres]
    repeat' (first
      | refine WP.t ?_ | refine WP.k ?_ | refine WP.e ?_ | refine Qn ?_ | refine Qr ?_ | refine Qe ?_ | refine Bn ?_ | refine Br ?_ | refine Be ?_ | refine Bx (by decide) ?_
      | (refine RS.nl ?_; refine hk _ _ ?_; clear hk k)
      | (refine RS.st fun A B hA hB => ?_; simp [h0, h9, h11, hlt, ints, abuiltin, alen, alenOk, ti27, onW_t, onW_f, onV_s]; first | (refine hA _ _ _ ?_ ?_; (focus (first | (simp [h0, h9, h11, hlt, ints, abuiltin, alen, alenOk, ti27]; done) | (simp [h0, h9, h11, hlt, ints, abuiltin, alen, alenOk, ti27]; omega))); clear hA hB A B) | (refine hB ?_; clear hA hB A B))
      | (refine RQ.nl ?_; refine hk _ _ ?_; clear hk k)
      | (refine RW.nl ?_; refine hk _ _ ?_; clear hk k)
      | (refine RW.st fun A B hA hB => ?_; simp [h0, h9, h11, hlt, ints, abuiltin, alen, alenOk, ti27, onW_t, onW_f, onV_s]; first | (refine hA _ _ _ ?_ (by first | exact .inl (by decide) | exact .inr (.inl rfl) | exact .inr (.inr rfl)) (by first | exact .inl (by decide) | exact .inr (.inl (by decide)) | exact .inr (.inr fun s2 => by simp [h0, h9, h11, hlt, ints, abuiltin, alen, alenOk, ti27])) ?_; (focus (first | (simp [h0, h9, h11, hlt, ints, abuiltin, alen, alenOk, ti27]; done) | (simp [h0, h9, h11, hlt, ints, abuiltin, alen, alenOk, ti27]; omega))); clear hA hB A B) | (refine hB ?_; clear hA hB A B))
      | (refine RQ.st fun A B hA hB => ?_; simp [h0, h9, h11, hlt, ints, abuiltin, alen, alenOk, ti27, onW_t, onW_f, onV_s]; first | (refine hA _ _ _ ?_ (by first | exact .inl rfl | exact .inr (by decide)) ?_; (focus (first | (simp [h0, h9, h11, hlt, ints, abuiltin, alen, alenOk, ti27]; done) | (simp [h0, h9, h11, hlt, ints, abuiltin, alen, alenOk, ti27]; omega))); clear hA hB A B) | (refine hB ?_; clear hA hB A B))
      | refine WP.sr fun k hk => ?_ | refine WP.r fun k hk => ?_ | refine WP.sd _ rfl fun k hk => ?_ | refine WP.d _ rfl fun k hk => ?_
      | (refine WP.cc fun A B hA hB => ?_; simp [h0, h9, h11, hlt, ints, abuiltin, alen, alenOk, ti27, onB_t, onB_f]; first | (refine hA ?_; clear hA hB A B) | (refine hB ?_; clear hA hB A B) | (refine onB_if (fun h => hA ?_) (fun h => hB ?_) <;> clear hA hB A B))
      | refine WP.q ?_ | refine WP.b ?_)
    rcases hB with ⟨h0', h3⟩ | ⟨hi0, rd, hrd, hrd2, h3, hr⟩
    · have : c = [] := List.eq_nil_of_length_eq_zero (by omega)
      subst this
      exact ⟨.inr rfl, .tup [.nsl, .int .i64 0], by simp [h3], .tup _ _ rfl (frz_pair .nil (.same _ (.int _ _)))⟩
    · refine ⟨.inr rfl, .tup [.ls rd 0 i, .int .i64 0], by simp [h3], .tup _ _ rfl (frz_pair ?_ (.same _ (.int _ _)))⟩
      have hlen : i = (List.map V.cs (List.map (getI l) c)).length := by simp [he]
      rw [hlen]
      exact frz_rows hr hrd
def okS (l : List V) : Bool := decide (l.length < LIM) && l.all fun v => decide (v.s.length < LIM)
theorem ft23 (hK : 3 < K) (hT : Tens gw) (hE : Errs gw) (x y : List V) (hx : okS x = true) (hy : okS y = true) : FT (env K gw) NoW 23 [.sl (x.map V.cs), .sl (y.map V.cs)] s (.int .i64 (cmpT x y)) s := by
  simp only [okS, Bool.and_eq_true, decide_eq_true_eq, List.all_eq_true] at hx hy
  obtain ⟨hx, hxs⟩ := hx
  obtain ⟨hy, hys⟩ := hy
  refine FT.pure (fn := Tryd.f23) (G5_ok hK hT hE) mixed Tryd.func23 (by kernel_rfl) (by rfl) rfl rfl (by simp) rfl fun μ w => ?_
  repeat' (first
    | refine WP.t ?_ | refine WP.k ?_ | refine WP.e ?_ | refine Qn ?_ | refine Qr ?_ | refine Qe ?_ | refine Bn ?_ | refine Br ?_ | refine Be ?_ | refine Bx (by decide) ?_
    | (refine RS.nl ?_; refine hk _ _ ?_; clear hk k)
    | (refine RS.st fun A B hA hB => ?_; simp [abuiltin, onW_t, onW_f, onV_s]; first | (refine hA _ _ _ ?_ ?_; (focus (first | (simp [abuiltin]; done) | (simp [abuiltin]; omega))); clear hA hB A B) | (refine hB ?_; clear hA hB A B))
    | (refine RQ.nl ?_; refine hk _ _ ?_; clear hk k)
    | (refine RW.nl ?_; refine hk _ _ ?_; clear hk k)
    | (refine RW.st fun A B hA hB => ?_; simp [abuiltin, onW_t, onW_f, onV_s]; first | (refine hA _ _ _ ?_ (by first | exact .inl (by decide) | exact .inr (.inl rfl) | exact .inr (.inr rfl)) (by first | exact .inl (by decide) | exact .inr (.inl (by decide)) | exact .inr (.inr fun s2 => by simp [abuiltin])) ?_; (focus (first | (simp [abuiltin]; done) | (simp [abuiltin]; omega))); clear hA hB A B) | (refine hB ?_; clear hA hB A B))
    | (refine RQ.st fun A B hA hB => ?_; simp [abuiltin, onW_t, onW_f, onV_s]; first | (refine hA _ _ _ ?_ (by first | exact .inl rfl | exact .inr (by decide)) ?_; (focus (first | (simp [abuiltin]; done) | (simp [abuiltin]; omega))); clear hA hB A B) | (refine hB ?_; clear hA hB A B))
    | refine WP.sr fun k hk => ?_ | refine WP.r fun k hk => ?_ | refine WP.sd _ rfl fun k hk => ?_ | refine WP.d _ rfl fun k hk => ?_
    | (refine WP.cc fun A B hA hB => ?_; simp [abuiltin, onB_t, onB_f]; first | (refine hA ?_; clear hA hB A B) | (refine hB ?_; clear hA hB A B) | (refine onB_if (fun h => hA ?_) (fun h => hB ?_) <;> clear hA hB A B))
    | refine WP.q ?_ | refine WP.b ?_)
  refine WP_loop (fun n T s' => ∃ i : Nat, n + i = min x.length y.length ∧ s' = s ∧ T.get 0 = .sl (x.map V.cs) ∧ T.get 1 = .sl (y.map V.cs) ∧ T.get 5 = .int .i64 i ∧ cmpT x y = cmpT (x.drop i) (y.drop i)) (min x.length y.length) ⟨0, by simp, rfl, by simp, by simp, by simp, by simp⟩ ?_
  rintro n T s' ⟨i, hn, rfl, h0, h1, h5, hc⟩
  by_cases hi : i < min x.length y.length
  · have hx' : i < x.length := by omega
    have hy' : i < y.length := by omega
    have hw : IntKind.i64.wrap ((i : Int) + 1) = (i : Int) + 1 := wrap64 (by omega) (by simp only [LIM] at hx; omega)
    have ha : x[i]? = some x[i] := List.getElem?_eq_getElem hx'
    have hb : y[i]? = some y[i] := List.getElem?_eq_getElem hy'
    have hxl := hxs x[i] (List.getElem_mem hx')
    have hyl := hys y[i] (List.getElem_mem hy')
    rw [cmpT_drop hx' hy'] at hc
    by_cases hz : cmpV x[i] y[i] = 0
    · rw [if_pos hz] at hc
      repeat' (first
        | refine WP.t ?_ | refine WP.k ?_ | refine WP.e ?_ | refine Qn ?_ | refine Qr ?_ | refine Qe ?_ | refine Bn ?_ | refine Br ?_ | refine Be ?_ | refine Bx (by decide) ?_
        | (refine RS.nl ?_; refine hk _ _ ?_; clear hk k)
        | (refine RS.st fun A B hA hB => ?_; simp [G5, G4, pSameV, pComp, abuiltin, alen, alenOk, ti22, ti34, elemOfT, aindex, h0, h1, h5, hx', hy', ha, hb, hw, hxl, hyl, hz, bare_cs_len, cstake, aunop, onW_t, onW_f, onV_s]; first | (refine hA _ _ _ ?_ ?_; (focus (first | (simp [G5, G4, pSameV, pComp, abuiltin, alen, alenOk, ti22, ti34, elemOfT, aindex, h0, h1, h5, hx', hy', ha, hb, hw, hxl, hyl, hz, bare_cs_len, cstake, aunop]; done) | (simp [G5, G4, pSameV, pComp, abuiltin, alen, alenOk, ti22, ti34, elemOfT, aindex, h0, h1, h5, hx', hy', ha, hb, hw, hxl, hyl, hz, bare_cs_len, cstake, aunop]; omega))); clear hA hB A B) | (refine hB ?_; clear hA hB A B))
        | (refine RQ.nl ?_; refine hk _ _ ?_; clear hk k)
        | (refine RW.nl ?_; refine hk _ _ ?_; clear hk k)
        | (refine RW.st fun A B hA hB => ?_; simp [G5, G4, pSameV, pComp, abuiltin, alen, alenOk, ti22, ti34, elemOfT, aindex, h0, h1, h5, hx', hy', ha, hb, hw, hxl, hyl, hz, bare_cs_len, cstake, aunop, onW_t, onW_f, onV_s]; first | (refine hA _ _ _ ?_ (by first | exact .inl (by decide) | exact .inr (.inl rfl) | exact .inr (.inr rfl)) (by first | exact .inl (by decide) | exact .inr (.inl (by decide)) | exact .inr (.inr fun s2 => by simp [G5, G4, pSameV, pComp, abuiltin, alen, alenOk, ti22, ti34, elemOfT, aindex, h0, h1, h5, hx', hy', ha, hb, hw, hxl, hyl, hz, bare_cs_len, cstake, aunop])) ?_; (focus (first | (simp [G5, G4, pSameV, pComp, abuiltin, alen, alenOk, ti22, ti34, elemOfT, aindex, h0, h1, h5, hx', hy', ha, hb, hw, hxl, hyl, hz, bare_cs_len, cstake, aunop]; done) | (simp [G5, G4, pSameV, pComp, abuiltin, alen, alenOk, ti22, ti34, elemOfT, aindex, h0, h1, h5, hx', hy', ha, hb, hw, hxl, hyl, hz, bare_cs_len, cstake, aunop]; omega))); clear hA hB A B) | (refine hB ?_; clear hA hB A B))
        | (refine RQ.st fun A B hA hB => ?_; simp [G5, G4, pSameV, pComp, abuiltin, alen, alenOk, ti22, ti34, elemOfT, aindex, h0, h1, h5, hx', hy', ha, hb, hw, hxl, hyl, hz, bare_cs_len, cstake, aunop, onW_t, onW_f, onV_s]; first | (refine hA _ _ _ ?_ (by first | exact .inl rfl | exact .inr (by decide)) ?_; (focus (first | (simp [G5, G4, pSameV, pComp, abuiltin, alen, alenOk, ti22, ti34, elemOfT, aindex, h0, h1, h5, hx', hy', ha, hb, hw, hxl, hyl, hz, bare_cs_len, cstake, aunop]; done) | (simp [G5, G4, pSameV, pComp, abuiltin, alen, alenOk, ti22, ti34, elemOfT, aindex, h0, h1, h5, hx', hy', ha, hb, hw, hxl, hyl, hz, bare_cs_len, cstake, aunop]; omega))); clear hA hB A B) | (refine hB ?_; clear hA hB A B))
        | refine WP.sr fun k hk => ?_ | refine WP.r fun k hk => ?_ | refine WP.sd _ rfl fun k hk => ?_ | refine WP.d _ rfl fun k hk => ?_
        | (refine WP.cc fun A B hA hB => ?_; simp [G5, G4, pSameV, pComp, abuiltin, alen, alenOk, ti22, ti34, elemOfT, aindex, h0, h1, h5, hx', hy', ha, hb, hw, hxl, hyl, hz, bare_cs_len, cstake, aunop, onB_t, onB_f]; first | (refine hA ?_; clear hA hB A B) | (refine hB ?_; clear hA hB A B) | (refine onB_if (fun h => hA ?_) (fun h => hB ?_) <;> clear hA hB A B))
        | refine WP.q ?_ | refine WP.b ?_)
      exact ⟨n - 1, by omega, i + 1, by omega, rfl, by simp [h0], by simp [h1], by simp, hc⟩
    · rw [if_neg hz] at hc
      have hz2 : (cmpV x[i] y[i] == 0) = false := by rw [beq_eq_false_iff_ne]; exact hz
      rw [hc]
      repeat' (first
        | refine WP.t ?_ | refine WP.k ?_ | refine WP.e ?_ | refine Qn ?_ | refine Qr ?_ | refine Qe ?_ | refine Bn ?_ | refine Br ?_ | refine Be ?_ | refine Bx (by decide) ?_
        | (refine RS.nl ?_; refine hk _ _ ?_; clear hk k)
        | (refine RS.st fun A B hA hB => ?_; simp [G5, G4, pSameV, pComp, abuiltin, alen, alenOk, ti22, ti34, elemOfT, aindex, h0, h1, h5, hx', hy', ha, hb, hw, hxl, hyl, hz2, bare_cs_len, cstake, aunop, onW_t, onW_f, onV_s]; first | (refine hA _ _ _ ?_ ?_; (focus (first | (simp [G5, G4, pSameV, pComp, abuiltin, alen, alenOk, ti22, ti34, elemOfT, aindex, h0, h1, h5, hx', hy', ha, hb, hw, hxl, hyl, hz2, bare_cs_len, cstake, aunop]; done) | (simp [G5, G4, pSameV, pComp, abuiltin, alen, alenOk, ti22, ti34, elemOfT, aindex, h0, h1, h5, hx', hy', ha, hb, hw, hxl, hyl, hz2, bare_cs_len, cstake, aunop]; omega))); clear hA hB A B) | (refine hB ?_; clear hA hB A B))
        | (refine RQ.nl ?_; refine hk _ _ ?_; clear hk k)
        | (refine RW.nl ?_; refine hk _ _ ?_; clear hk k)
        | (refine RW.st fun A B hA hB => ?_; simp [G5, G4, pSameV, pComp, abuiltin, alen, alenOk, ti22, ti34, elemOfT, aindex, h0, h1, h5, hx', hy', ha, hb, hw, hxl, hyl, hz2, bare_cs_len, cstake, aunop, onW_t, onW_f, onV_s]; first | (refine hA _ _ _ ?_ (by first | exact .inl (by decide) | exact .inr (.inl rfl) | exact .inr (.inr rfl)) (by first | exact .inl (by decide) | exact .inr (.inl (by decide)) | exact .inr (.inr fun s2 => by simp [G5, G4, pSameV, pComp, abuiltin, alen, alenOk, ti22, ti34, elemOfT, aindex, h0, h1, h5, hx', hy', ha, hb, hw, hxl, hyl, hz2, bare_cs_len, cstake, aunop])) ?_; (focus (first | (simp [G5, G4, pSameV, pComp, abuiltin, alen, alenOk, ti22, ti34, elemOfT, aindex, h0, h1, h5, hx', hy', ha, hb, hw, hxl, hyl, hz2, bare_cs_len, cstake, aunop]; done) | (simp [G5, G4, pSameV, pComp, abuiltin, alen, alenOk, ti22, ti34, elemOfT, aindex, h0, h1, h5, hx', hy', ha, hb, hw, hxl, hyl, hz2, bare_cs_len, cstake, aunop]; omega))); clear hA hB A B) | (refine hB ?_; clear hA hB A B))
        | (refine RQ.st fun A B hA hB => ?_; simp [G5, G4, pSameV, pComp, abuiltin, alen, alenOk, ti22, ti34, elemOfT, aindex, h0, h1, h5, hx', hy', ha, hb, hw, hxl, hyl, hz2, bare_cs_len, cstake, aunop, onW_t, onW_f, onV_s]; first | (refine hA _ _ _ ?_ (by first | exact .inl rfl | exact .inr (by decide)) ?_; (focus (first | (simp [G5, G4, pSameV, pComp, abuiltin, alen, alenOk, ti22, ti34, elemOfT, aindex, h0, h1, h5, hx', hy', ha, hb, hw, hxl, hyl, hz2, bare_cs_len, cstake, aunop]; done) | (simp [G5, G4, pSameV, pComp, abuiltin, alen, alenOk, ti22, ti34, elemOfT, aindex, h0, h1, h5, hx', hy', ha, hb, hw, hxl, hyl, hz2, bare_cs_len, cstake, aunop]; omega))); clear hA hB A B) | (refine hB ?_; clear hA hB A B))
        | refine WP.sr fun k hk => ?_ | refine WP.r fun k hk => ?_ | refine WP.sd _ rfl fun k hk => ?_ | refine WP.d _ rfl fun k hk => ?_
        | (refine WP.cc fun A B hA hB => ?_; simp [G5, G4, pSameV, pComp, abuiltin, alen, alenOk, ti22, ti34, elemOfT, aindex, h0, h1, h5, hx', hy', ha, hb, hw, hxl, hyl, hz2, bare_cs_len, cstake, aunop, onB_t, onB_f]; first | (refine hA ?_; clear hA hB A B) | (refine hB ?_; clear hA hB A B) | (refine onB_if (fun h => hA ?_) (fun h => hB ?_) <;> clear hA hB A B))
        | refine WP.q ?_ | refine WP.b ?_)
      simp
  · have he : i = min x.length y.length := by omega
    rw [cmpT_end he] at hc
    rw [hc]
    by_cases hx' : i < x.length
    · have hy' : ¬ i < y.length := by omega
      repeat' (first
        | refine WP.t ?_ | refine WP.k ?_ | refine WP.e ?_ | refine Qn ?_ | refine Qr ?_ | refine Qe ?_ | refine Bn ?_ | refine Br ?_ | refine Be ?_ | refine Bx (by decide) ?_
        | (refine RS.nl ?_; refine hk _ _ ?_; clear hk k)
        | (refine RS.st fun A B hA hB => ?_; simp [abuiltin, alenOk, alen, ti22, h0, h1, h5, hx', hy', onW_t, onW_f, onV_s]; first | (refine hA _ _ _ ?_ ?_; (focus (first | (simp [abuiltin, alenOk, alen, ti22, h0, h1, h5, hx', hy']; done) | (simp [abuiltin, alenOk, alen, ti22, h0, h1, h5, hx', hy']; omega))); clear hA hB A B) | (refine hB ?_; clear hA hB A B))
        | (refine RQ.nl ?_; refine hk _ _ ?_; clear hk k)
        | (refine RW.nl ?_; refine hk _ _ ?_; clear hk k)
        | (refine RW.st fun A B hA hB => ?_; simp [abuiltin, alenOk, alen, ti22, h0, h1, h5, hx', hy', onW_t, onW_f, onV_s]; first | (refine hA _ _ _ ?_ (by first | exact .inl (by decide) | exact .inr (.inl rfl) | exact .inr (.inr rfl)) (by first | exact .inl (by decide) | exact .inr (.inl (by decide)) | exact .inr (.inr fun s2 => by simp [abuiltin, alenOk, alen, ti22, h0, h1, h5, hx', hy'])) ?_; (focus (first | (simp [abuiltin, alenOk, alen, ti22, h0, h1, h5, hx', hy']; done) | (simp [abuiltin, alenOk, alen, ti22, h0, h1, h5, hx', hy']; omega))); clear hA hB A B) | (refine hB ?_; clear hA hB A B))
        | (refine RQ.st fun A B hA hB => ?_; simp [abuiltin, alenOk, alen, ti22, h0, h1, h5, hx', hy', onW_t, onW_f, onV_s]; first | (refine hA _ _ _ ?_ (by first | exact .inl rfl | exact .inr (by decide)) ?_; (focus (first | (simp [abuiltin, alenOk, alen, ti22, h0, h1, h5, hx', hy']; done) | (simp [abuiltin, alenOk, alen, ti22, h0, h1, h5, hx', hy']; omega))); clear hA hB A B) | (refine hB ?_; clear hA hB A B))
        | refine WP.sr fun k hk => ?_ | refine WP.r fun k hk => ?_ | refine WP.sd _ rfl fun k hk => ?_ | refine WP.d _ rfl fun k hk => ?_
        | (refine WP.cc fun A B hA hB => ?_; simp [abuiltin, alenOk, alen, ti22, h0, h1, h5, hx', hy', onB_t, onB_f]; first | (refine hA ?_; clear hA hB A B) | (refine hB ?_; clear hA hB A B) | (refine onB_if (fun h => hA ?_) (fun h => hB ?_) <;> clear hA hB A B))
        | refine WP.q ?_ | refine WP.b ?_)
      all_goals (simp at *; unfold cmpI; first | (rw [if_pos (by omega)]; done) | (rw [if_neg (by omega), if_pos (by omega)]; done) | rw [if_neg (by omega), if_neg (by omega)])
    · skip
      repeat' (first
        | refine WP.t ?_ | refine WP.k ?_ | refine WP.e ?_ | refine Qn ?_ | refine Qr ?_ | refine Qe ?_ | refine Bn ?_ | refine Br ?_ | refine Be ?_ | refine Bx (by decide) ?_
        | (refine RS.nl ?_; refine hk _ _ ?_; clear hk k)
        | (refine RS.st fun A B hA hB => ?_; simp [abuiltin, alenOk, alen, ti22, h0, h1, h5, hx', onW_t, onW_f, onV_s]; first | (refine hA _ _ _ ?_ ?_; (focus (first | (simp [abuiltin, alenOk, alen, ti22, h0, h1, h5, hx']; done) | (simp [abuiltin, alenOk, alen, ti22, h0, h1, h5, hx']; omega))); clear hA hB A B) | (refine hB ?_; clear hA hB A B))
        | (refine RQ.nl ?_; refine hk _ _ ?_; clear hk k)
        | (refine RW.nl ?_; refine hk _ _ ?_; clear hk k)
        | (refine RW.st fun A B hA hB => ?_; simp [abuiltin, alenOk, alen, ti22, h0, h1, h5, hx', onW_t, onW_f, onV_s]; first | (refine hA _ _ _ ?_ (by first | exact .inl (by decide) | exact .inr (.inl rfl) | exact .inr (.inr rfl)) (by first | exact .inl (by decide) | exact .inr (.inl (by decide)) | exact .inr (.inr fun s2 => by simp [abuiltin, alenOk, alen, ti22, h0, h1, h5, hx'])) ?_; (focus (first | (simp [abuiltin, alenOk, alen, ti22, h0, h1, h5, hx']; done) | (simp [abuiltin, alenOk, alen, ti22, h0, h1, h5, hx']; omega))); clear hA hB A B) | (refine hB ?_; clear hA hB A B))
        | (refine RQ.st fun A B hA hB => ?_; simp [abuiltin, alenOk, alen, ti22, h0, h1, h5, hx', onW_t, onW_f, onV_s]; first | (refine hA _ _ _ ?_ (by first | exact .inl rfl | exact .inr (by decide)) ?_; (focus (first | (simp [abuiltin, alenOk, alen, ti22, h0, h1, h5, hx']; done) | (simp [abuiltin, alenOk, alen, ti22, h0, h1, h5, hx']; omega))); clear hA hB A B) | (refine hB ?_; clear hA hB A B))
        | refine WP.sr fun k hk => ?_ | refine WP.r fun k hk => ?_ | refine WP.sd _ rfl fun k hk => ?_ | refine WP.d _ rfl fun k hk => ?_
        | (refine WP.cc fun A B hA hB => ?_; simp [abuiltin, alenOk, alen, ti22, h0, h1, h5, hx', onB_t, onB_f]; first | (refine hA ?_; clear hA hB A B) | (refine hB ?_; clear hA hB A B) | (refine onB_if (fun h => hA ?_) (fun h => hB ?_) <;> clear hA hB A B))
        | refine WP.q ?_ | refine WP.b ?_)
      all_goals (simp at *; unfold cmpI; first | (rw [if_pos (by omega)]; done) | (rw [if_neg (by omega), if_pos (by omega)]; done) | rw [if_neg (by omega), if_neg (by omega)])
theorem ft24 (hK : 3 < K) (hT : Tens gw) (hE : Errs gw) (l : List V) (hl : okT l = true) : FT (env K gw) NoW 24 [.sl (l.map V.cs)] s (.str (keyT l)) s := by
  have hl' := hl
  simp only [okT, Bool.and_eq_true, decide_eq_true_eq, List.all_eq_true] at hl'
  obtain ⟨⟨hll, hln⟩, hlk⟩ := hl'
  refine FT.pure (fn := Tryd.f24) (G5_ok hK hT hE) mixed Tryd.func24 (by kernel_rfl) (by rfl) rfl rfl (by simp) rfl fun μ w => ?_
  repeat' (first
    | refine WP.t ?_ | refine WP.k ?_ | refine WP.e ?_ | refine Qn ?_ | refine Qr ?_ | refine Qe ?_ | refine Bn ?_ | refine Br ?_ | refine Be ?_ | refine Bx (by decide) ?_
    | (refine RS.nl ?_; refine hk _ _ ?_; clear hk k)
    | (refine RS.st fun A B hA hB => ?_; simp [abuiltin, onW_t, onW_f, onV_s]; first | (refine hA _ _ _ ?_ ?_; (focus (first | (simp [abuiltin]; done) | (simp [abuiltin]; omega))); clear hA hB A B) | (refine hB ?_; clear hA hB A B))
    | (refine RQ.nl ?_; refine hk _ _ ?_; clear hk k)
    | (refine RW.nl ?_; refine hk _ _ ?_; clear hk k)
    | (refine RW.st fun A B hA hB => ?_; simp [abuiltin, onW_t, onW_f, onV_s]; first | (refine hA _ _ _ ?_ (by first | exact .inl (by decide) | exact .inr (.inl rfl) | exact .inr (.inr rfl)) (by first | exact .inl (by decide) | exact .inr (.inl (by decide)) | exact .inr (.inr fun s2 => by simp [abuiltin])) ?_; (focus (first | (simp [abuiltin]; done) | (simp [abuiltin]; omega))); clear hA hB A B) | (refine hB ?_; clear hA hB A B))
    | (refine RQ.st fun A B hA hB => ?_; simp [abuiltin, onW_t, onW_f, onV_s]; first | (refine hA _ _ _ ?_ (by first | exact .inl rfl | exact .inr (by decide)) ?_; (focus (first | (simp [abuiltin]; done) | (simp [abuiltin]; omega))); clear hA hB A B) | (refine hB ?_; clear hA hB A B))
    | refine WP.sr fun k hk => ?_ | refine WP.r fun k hk => ?_ | refine WP.sd _ rfl fun k hk => ?_ | refine WP.d _ rfl fun k hk => ?_
    | (refine WP.cc fun A B hA hB => ?_; simp [abuiltin, onB_t, onB_f]; first | (refine hA ?_; clear hA hB A B) | (refine hB ?_; clear hA hB A B) | (refine onB_if (fun h => hA ?_) (fun h => hB ?_) <;> clear hA hB A B))
    | refine WP.q ?_ | refine WP.b ?_)
  refine WP_loop (fun n T s' => ∃ i : Nat, n + i = l.length ∧ s' = s ∧ T.get 0 = .sl (l.map V.cs) ∧ T.get 3 = .str (keyT (l.take i)) ∧ T.get 4 = .int .i64 i) l.length ⟨0, by simp, rfl, by simp, by simp [keyT], by simp⟩ ?_
  rintro n T s' ⟨i, hn, rfl, h0, h3, h4⟩
  by_cases hi : i < l.length
  · have hw : IntKind.i64.wrap ((i : Int) + 1) = (i : Int) + 1 := wrap64 (by omega) (by simp only [LIM] at hll; omega)
    have ha : l[i]? = some l[i] := List.getElem?_eq_getElem hi
    have hv := hln l[i] (List.getElem_mem hi)
    have htk := keyT_take hi
    have hkl : (keyT (l.take (i + 1))).length ≤ (keyT l).length := by
      have : keyT l = keyT (l.take (i + 1)) ++ keyT (l.drop (i + 1)) := by rw [← keyT_append, List.take_append_drop]
      rw [this, List.length_append]; omega
    have hkv : keyV l[i] = (if l[i].b then [115] else [110]) ++ Lib.itoa ((txtV l[i]).length : Int) ++ [58] ++ txtV l[i] := rfl
    have hrow : ∃ h : i < l.length, True := ⟨hi, trivial⟩
    generalize hvv : l[i] = v at *
    generalize keyT (l.take i) = pre at *
    obtain ⟨b, x, m⟩ := v
    cases b
    · simp only [txtV, Bool.false_eq_true, if_false] at hkv
      generalize htx : Lib.itoa m = tx at *
      generalize hty : Lib.itoa (tx.length : Int) = ty at *
      have hlen : pre.length + (1 + ty.length + 1 + tx.length) ≤ 140737488355328 := by
        rw [htk, hkv] at hkl
        simp only [List.length_append, List.length_cons, List.length_nil] at hkl
        omega
      have hok1 : i64ok (tx.length : Int) = true := by simp only [i64ok, decide_eq_true_eq]; omega
      have a1 : pre.length + 1 ≤ 9223372036854775807 := by omega
      have a2 : pre.length + 1 + ty.length ≤ 9223372036854775807 := by omega
      have a3 : pre.length + (ty.length + 1) + 1 ≤ 9223372036854775807 := by omega
      have a4 : pre.length + (ty.length + 1 + 1) + tx.length ≤ 9223372036854775807 := by omega
      repeat' (first
        | refine WP.t ?_ | refine WP.k ?_ | refine WP.e ?_ | refine Qn ?_ | refine Qr ?_ | refine Qe ?_ | refine Bn ?_ | refine Br ?_ | refine Be ?_ | refine Bx (by decide) ?_
        | (refine RS.nl ?_; refine hk _ _ ?_; clear hk k)
        | (refine RS.st fun A B hA hB => ?_; simp [G5, G4, pFigA, abuiltin, alen, alenOk, ti22, ti34, ti9, ti4, ti2, elemOfT, aindex, h0, h3, h4, hi, ha, hvv, hw, hv, htx, hty, hok1, a1, a2, a3, a4, V.cs, astrop, aunop, onW_t, onW_f, onV_s]; first | (refine hA _ _ _ ?_ ?_; (focus (first | (simp [G5, G4, pFigA, abuiltin, alen, alenOk, ti22, ti34, ti9, ti4, ti2, elemOfT, aindex, h0, h3, h4, hi, ha, hvv, hw, hv, htx, hty, hok1, a1, a2, a3, a4, V.cs, astrop, aunop]; done) | (simp [G5, G4, pFigA, abuiltin, alen, alenOk, ti22, ti34, ti9, ti4, ti2, elemOfT, aindex, h0, h3, h4, hi, ha, hvv, hw, hv, htx, hty, hok1, a1, a2, a3, a4, V.cs, astrop, aunop]; omega))); clear hA hB A B) | (refine hB ?_; clear hA hB A B))
        | (refine RQ.nl ?_; refine hk _ _ ?_; clear hk k)
        | (refine RW.nl ?_; refine hk _ _ ?_; clear hk k)
        | (refine RW.st fun A B hA hB => ?_; simp [G5, G4, pFigA, abuiltin, alen, alenOk, ti22, ti34, ti9, ti4, ti2, elemOfT, aindex, h0, h3, h4, hi, ha, hvv, hw, hv, htx, hty, hok1, a1, a2, a3, a4, V.cs, astrop, aunop, onW_t, onW_f, onV_s]; first | (refine hA _ _ _ ?_ (by first | exact .inl (by decide) | exact .inr (.inl rfl) | exact .inr (.inr rfl)) (by first | exact .inl (by decide) | exact .inr (.inl (by decide)) | exact .inr (.inr fun s2 => by simp [G5, G4, pFigA, abuiltin, alen, alenOk, ti22, ti34, ti9, ti4, ti2, elemOfT, aindex, h0, h3, h4, hi, ha, hvv, hw, hv, htx, hty, hok1, a1, a2, a3, a4, V.cs, astrop, aunop])) ?_; (focus (first | (simp [G5, G4, pFigA, abuiltin, alen, alenOk, ti22, ti34, ti9, ti4, ti2, elemOfT, aindex, h0, h3, h4, hi, ha, hvv, hw, hv, htx, hty, hok1, a1, a2, a3, a4, V.cs, astrop, aunop]; done) | (simp [G5, G4, pFigA, abuiltin, alen, alenOk, ti22, ti34, ti9, ti4, ti2, elemOfT, aindex, h0, h3, h4, hi, ha, hvv, hw, hv, htx, hty, hok1, a1, a2, a3, a4, V.cs, astrop, aunop]; omega))); clear hA hB A B) | (refine hB ?_; clear hA hB A B))
        | (refine RQ.st fun A B hA hB => ?_; simp [G5, G4, pFigA, abuiltin, alen, alenOk, ti22, ti34, ti9, ti4, ti2, elemOfT, aindex, h0, h3, h4, hi, ha, hvv, hw, hv, htx, hty, hok1, a1, a2, a3, a4, V.cs, astrop, aunop, onW_t, onW_f, onV_s]; first | (refine hA _ _ _ ?_ (by first | exact .inl rfl | exact .inr (by decide)) ?_; (focus (first | (simp [G5, G4, pFigA, abuiltin, alen, alenOk, ti22, ti34, ti9, ti4, ti2, elemOfT, aindex, h0, h3, h4, hi, ha, hvv, hw, hv, htx, hty, hok1, a1, a2, a3, a4, V.cs, astrop, aunop]; done) | (simp [G5, G4, pFigA, abuiltin, alen, alenOk, ti22, ti34, ti9, ti4, ti2, elemOfT, aindex, h0, h3, h4, hi, ha, hvv, hw, hv, htx, hty, hok1, a1, a2, a3, a4, V.cs, astrop, aunop]; omega))); clear hA hB A B) | (refine hB ?_; clear hA hB A B))
        | refine WP.sr fun k hk => ?_ | refine WP.r fun k hk => ?_ | refine WP.sd _ rfl fun k hk => ?_ | refine WP.d _ rfl fun k hk => ?_
        | (refine WP.cc fun A B hA hB => ?_; simp [G5, G4, pFigA, abuiltin, alen, alenOk, ti22, ti34, ti9, ti4, ti2, elemOfT, aindex, h0, h3, h4, hi, ha, hvv, hw, hv, htx, hty, hok1, a1, a2, a3, a4, V.cs, astrop, aunop, onB_t, onB_f]; first | (refine hA ?_; clear hA hB A B) | (refine hB ?_; clear hA hB A B) | (refine onB_if (fun h => hA ?_) (fun h => hB ?_) <;> clear hA hB A B))
        | refine WP.q ?_ | refine WP.b ?_)
      refine ⟨n - 1, by omega, i + 1, by omega, rfl, by simp [h0], ?_, by simp⟩
      rw [htk, hkv]
      simp
    · simp only [txtV, if_true] at hkv
      generalize hty : Lib.itoa (x.length : Int) = ty at *
      have hlen : pre.length + (1 + ty.length + 1 + x.length) ≤ 140737488355328 := by
        rw [htk, hkv] at hkl
        simp only [List.length_append, List.length_cons, List.length_nil] at hkl
        omega
      have hok1 : i64ok (x.length : Int) = true := by simp only [i64ok, decide_eq_true_eq]; omega
      have a1 : pre.length + 1 ≤ 9223372036854775807 := by omega
      have a2 : pre.length + 1 + ty.length ≤ 9223372036854775807 := by omega
      have a3 : pre.length + (ty.length + 1) + 1 ≤ 9223372036854775807 := by omega
      have a4 : pre.length + (ty.length + 1 + 1) + x.length ≤ 9223372036854775807 := by omega
      repeat' (first
        | refine WP.t ?_ | refine WP.k ?_ | refine WP.e ?_ | refine Qn ?_ | refine Qr ?_ | refine Qe ?_ | refine Bn ?_ | refine Br ?_ | refine Be ?_ | refine Bx (by decide) ?_
        | (refine RS.nl ?_; refine hk _ _ ?_; clear hk k)
        | (refine RS.st fun A B hA hB => ?_; simp [G5, G4, pFigA, abuiltin, alen, alenOk, ti22, ti34, ti9, ti4, ti2, elemOfT, aindex, h0, h3, h4, hi, ha, hvv, hw, hv, hty, hok1, a1, a2, a3, a4, V.cs, astrop, aunop, onW_t, onW_f, onV_s]; first | (refine hA _ _ _ ?_ ?_; (focus (first | (simp [G5, G4, pFigA, abuiltin, alen, alenOk, ti22, ti34, ti9, ti4, ti2, elemOfT, aindex, h0, h3, h4, hi, ha, hvv, hw, hv, hty, hok1, a1, a2, a3, a4, V.cs, astrop, aunop]; done) | (simp [G5, G4, pFigA, abuiltin, alen, alenOk, ti22, ti34, ti9, ti4, ti2, elemOfT, aindex, h0, h3, h4, hi, ha, hvv, hw, hv, hty, hok1, a1, a2, a3, a4, V.cs, astrop, aunop]; omega))); clear hA hB A B) | (refine hB ?_; clear hA hB A B))
        | (refine RQ.nl ?_; refine hk _ _ ?_; clear hk k)
        | (refine RW.nl ?_; refine hk _ _ ?_; clear hk k)
        | (refine RW.st fun A B hA hB => ?_; simp [G5, G4, pFigA, abuiltin, alen, alenOk, ti22, ti34, ti9, ti4, ti2, elemOfT, aindex, h0, h3, h4, hi, ha, hvv, hw, hv, hty, hok1, a1, a2, a3, a4, V.cs, astrop, aunop, onW_t, onW_f, onV_s]; first | (refine hA _ _ _ ?_ (by first | exact .inl (by decide) | exact .inr (.inl rfl) | exact .inr (.inr rfl)) (by first | exact .inl (by decide) | exact .inr (.inl (by decide)) | exact .inr (.inr fun s2 => by simp [G5, G4, pFigA, abuiltin, alen, alenOk, ti22, ti34, ti9, ti4, ti2, elemOfT, aindex, h0, h3, h4, hi, ha, hvv, hw, hv, hty, hok1, a1, a2, a3, a4, V.cs, astrop, aunop])) ?_; (focus (first | (simp [G5, G4, pFigA, abuiltin, alen, alenOk, ti22, ti34, ti9, ti4, ti2, elemOfT, aindex, h0, h3, h4, hi, ha, hvv, hw, hv, hty, hok1, a1, a2, a3, a4, V.cs, astrop, aunop]; done) | (simp [G5, G4, pFigA, abuiltin, alen, alenOk, ti22, ti34, ti9, ti4, ti2, elemOfT, aindex, h0, h3, h4, hi, ha, hvv, hw, hv, hty, hok1, a1, a2, a3, a4, V.cs, astrop, aunop]; omega))); clear hA hB A B) | (refine hB ?_; clear hA hB A B))
        | (refine RQ.st fun A B hA hB => ?_; simp [G5, G4, pFigA, abuiltin, alen, alenOk, ti22, ti34, ti9, ti4, ti2, elemOfT, aindex, h0, h3, h4, hi, ha, hvv, hw, hv, hty, hok1, a1, a2, a3, a4, V.cs, astrop, aunop, onW_t, onW_f, onV_s]; first | (refine hA _ _ _ ?_ (by first | exact .inl rfl | exact .inr (by decide)) ?_; (focus (first | (simp [G5, G4, pFigA, abuiltin, alen, alenOk, ti22, ti34, ti9, ti4, ti2, elemOfT, aindex, h0, h3, h4, hi, ha, hvv, hw, hv, hty, hok1, a1, a2, a3, a4, V.cs, astrop, aunop]; done) | (simp [G5, G4, pFigA, abuiltin, alen, alenOk, ti22, ti34, ti9, ti4, ti2, elemOfT, aindex, h0, h3, h4, hi, ha, hvv, hw, hv, hty, hok1, a1, a2, a3, a4, V.cs, astrop, aunop]; omega))); clear hA hB A B) | (refine hB ?_; clear hA hB A B))
        | refine WP.sr fun k hk => ?_ | refine WP.r fun k hk => ?_ | refine WP.sd _ rfl fun k hk => ?_ | refine WP.d _ rfl fun k hk => ?_
        | (refine WP.cc fun A B hA hB => ?_; simp [G5, G4, pFigA, abuiltin, alen, alenOk, ti22, ti34, ti9, ti4, ti2, elemOfT, aindex, h0, h3, h4, hi, ha, hvv, hw, hv, hty, hok1, a1, a2, a3, a4, V.cs, astrop, aunop, onB_t, onB_f]; first | (refine hA ?_; clear hA hB A B) | (refine hB ?_; clear hA hB A B) | (refine onB_if (fun h => hA ?_) (fun h => hB ?_) <;> clear hA hB A B))
        | refine WP.q ?_ | refine WP.b ?_)
      refine ⟨n - 1, by omega, i + 1, by omega, rfl, by simp [h0], ?_, by simp⟩
      rw [htk, hkv]
      simp
  · have he : i = l.length := by omega
    rw [he, List.take_length] at h3
    repeat' (first
      | refine WP.t ?_ | refine WP.k ?_ | refine WP.e ?_ | refine Qn ?_ | refine Qr ?_ | refine Qe ?_ | refine Bn ?_ | refine Br ?_ | refine Be ?_ | refine Bx (by decide) ?_
      | (refine RS.nl ?_; refine hk _ _ ?_; clear hk k)
      | (refine RS.st fun A B hA hB => ?_; simp [abuiltin, alen, alenOk, ti22, h0, h3, h4, hi, onW_t, onW_f, onV_s]; first | (refine hA _ _ _ ?_ ?_; (focus (first | (simp [abuiltin, alen, alenOk, ti22, h0, h3, h4, hi]; done) | (simp [abuiltin, alen, alenOk, ti22, h0, h3, h4, hi]; omega))); clear hA hB A B) | (refine hB ?_; clear hA hB A B))
      | (refine RQ.nl ?_; refine hk _ _ ?_; clear hk k)
      | (refine RW.nl ?_; refine hk _ _ ?_; clear hk k)
      | (refine RW.st fun A B hA hB => ?_; simp [abuiltin, alen, alenOk, ti22, h0, h3, h4, hi, onW_t, onW_f, onV_s]; first | (refine hA _ _ _ ?_ (by first | exact .inl (by decide) | exact .inr (.inl rfl) | exact .inr (.inr rfl)) (by first | exact .inl (by decide) | exact .inr (.inl (by decide)) | exact .inr (.inr fun s2 => by simp [abuiltin, alen, alenOk, ti22, h0, h3, h4, hi])) ?_; (focus (first | (simp [abuiltin, alen, alenOk, ti22, h0, h3, h4, hi]; done) | (simp [abuiltin, alen, alenOk, ti22, h0, h3, h4, hi]; omega))); clear hA hB A B) | (refine hB ?_; clear hA hB A B))
      | (refine RQ.st fun A B hA hB => ?_; simp [abuiltin, alen, alenOk, ti22, h0, h3, h4, hi, onW_t, onW_f, onV_s]; first | (refine hA _ _ _ ?_ (by first | exact .inl rfl | exact .inr (by decide)) ?_; (focus (first | (simp [abuiltin, alen, alenOk, ti22, h0, h3, h4, hi]; done) | (simp [abuiltin, alen, alenOk, ti22, h0, h3, h4, hi]; omega))); clear hA hB A B) | (refine hB ?_; clear hA hB A B))
      | refine WP.sr fun k hk => ?_ | refine WP.r fun k hk => ?_ | refine WP.sd _ rfl fun k hk => ?_ | refine WP.d _ rfl fun k hk => ?_
      | (refine WP.cc fun A B hA hB => ?_; simp [abuiltin, alen, alenOk, ti22, h0, h3, h4, hi, onB_t, onB_f]; first | (refine hA ?_; clear hA hB A B) | (refine hB ?_; clear hA hB A B) | (refine onB_if (fun h => hA ?_) (fun h => hB ?_) <;> clear hA hB A B))
      | refine WP.q ?_ | refine WP.b ?_)
    simp
def pOfR : List AV → Option AV
  | [.sl a] => match decL a with
    | some l => if l.length < 1073741824 then some (.sl ((l.map bareV).map V.cs)) else none
    | none => none
  | _ => none
def pProjR : List AV → Option AV
  | [.sl a, .sl b] => match decL a, decI b with
    | some l, some c => if l.length < 1073741824 ∧ c.length < 1073741824 then some (projT l c) else none
    | _, _ => none
  | _ => none
def pCmpR : List AV → Option AV
  | [.sl a, .sl b] => match decL a, decL b with
    | some x, some y => if okS x = true ∧ okS y = true then some (.int .i64 (cmpT x y)) else none
    | _, _ => none
  | _ => none
def pKeyR : List AV → Option AV
  | [.sl a] => match decL a with
    | some l => if okT l = true then some (.str (keyT l)) else none
    | none => none
  | _ => none
noncomputable def G6 : Fns := (((G5.addP 26 pOfR).addP 22 pProjR).addP 23 pCmpR).addP 24 pKeyR
theorem G6_ok (hK : 3 < K) (hT : Tens gw) (hE : Errs gw) : FOk (env K gw) G6 := by
  refine ((((G5_ok hK hT hE).addP ?_).addP ?_).addP ?_).addP ?_
  · intro xs s r h; unfold pOfR at h; split at h
    · split at h
      · rename_i h1
        split at h
        · rename_i hl; cases h; rw [decL_eq h1]; exact ft26 hK hT hE _ hl
        · cases h
      · cases h
    · cases h
  · intro xs s r h; unfold pProjR at h; split at h
    · split at h
      · rename_i h1 h2
        split at h
        · rename_i hl; cases h; rw [decL_eq h1, decI_eq h2]; exact ft22 _ _ hl.1 hl.2
        · cases h
      · cases h
    · cases h
  · intro xs s r h; unfold pCmpR at h; split at h
    · split at h
      · rename_i h1 h2
        split at h
        · rename_i hl; cases h; rw [decL_eq h1, decL_eq h2]; exact ft23 hK hT hE _ _ hl.1 hl.2
        · cases h
      · cases h
    · cases h
  · intro xs s r h; unfold pKeyR at h; split at h
    · split at h
      · rename_i h1
        split at h
        · rename_i hl; cases h; rw [decL_eq h1]; exact ft24 hK hT hE _ hl
        · cases h
      · cases h
    · cases h
end
end Go.Am
namespace Go.Am
open Go.Proofs
section
variable {K : Nat} {gw : World} {s : St}
attribute [local simp] RS_cons' RS_nil RQ_nil RQ_cons' awanted xop zOf zrow aop ev T0 Slots.put Slots.set Slots.get awr WOk AV.may ofConst abinop aint isConst St.get_push St.get_put St.live AV.fit AV.cells AV.one fieldOf afieldAddr aload ofCells astore splice May eqres env_ti FinP ares aresL ares1 Fns.addP Fns.add
set_option maxHeartbeats 4000000 in
theorem ft39 (hK : 3 < K) (hT : Tens gw) (hE : Errs gw) (x : List UInt8) (hl : x.length ≤ 100000000) : FT (env K gw) NoW 39 [.str x] s (.tup [.int .i64 (numS x).1, .bool (numS x).2]) s := by
  refine FT.pure (fn := Tryd.f39) (G6_ok hK hT hE) mixed Tryd.func39 (by kernel_rfl) (by rfl) rfl rfl (by simp) rfl fun μ w => ?_
  by_cases hx0 : x = []
  · have hneg : negB x = false := by rw [hx0]; rfl
    have hdd : digs x = x := by unfold digs; rw [if_neg (by rw [hneg]; simp)]
    have hl0 : ¬ (0 : Int) < (x.length : Int) := by rw [hx0]; simp
    have hxd : x = x := rfl
    have hdd2 := hdd
    repeat' (first
      | refine WP.t ?_ | refine WP.k ?_ | refine WP.e ?_ | refine Qn ?_ | refine Qr ?_ | refine Qe ?_ | refine Bn ?_ | refine Br ?_ | refine Be ?_ | refine Bx (by decide) ?_
      | (refine RS.nl ?_; refine hk _ _ ?_; clear hk k)
      | (refine RS.st fun A B hA hB => ?_; simp [abuiltin, alen, alenOk, ti9, isStrD, aidx, AV.isStr, hl0, hx0, onW_t, onW_f, onV_s]; first | (refine hA _ _ _ ?_ ?_; (focus (first | (simp [abuiltin, alen, alenOk, ti9, isStrD, aidx, AV.isStr, hl0, hx0]; done) | (simp [abuiltin, alen, alenOk, ti9, isStrD, aidx, AV.isStr, hl0, hx0]; omega))); clear hA hB A B) | (refine hB ?_; clear hA hB A B))
      | (refine RQ.nl ?_; refine hk _ _ ?_; clear hk k)
      | (refine RW.nl ?_; refine hk _ _ ?_; clear hk k)
      | (refine RW.st fun A B hA hB => ?_; simp [abuiltin, alen, alenOk, ti9, isStrD, aidx, AV.isStr, hl0, hx0, onW_t, onW_f, onV_s]; first | (refine hA _ _ _ ?_ (by first | exact .inl (by decide) | exact .inr (.inl rfl) | exact .inr (.inr rfl)) (by first | exact .inl (by decide) | exact .inr (.inl (by decide)) | exact .inr (.inr fun s2 => by simp [abuiltin, alen, alenOk, ti9, isStrD, aidx, AV.isStr, hl0, hx0])) ?_; (focus (first | (simp [abuiltin, alen, alenOk, ti9, isStrD, aidx, AV.isStr, hl0, hx0]; done) | (simp [abuiltin, alen, alenOk, ti9, isStrD, aidx, AV.isStr, hl0, hx0]; omega))); clear hA hB A B) | (refine hB ?_; clear hA hB A B))
      | (refine RQ.st fun A B hA hB => ?_; simp [abuiltin, alen, alenOk, ti9, isStrD, aidx, AV.isStr, hl0, hx0, onW_t, onW_f, onV_s]; first | (refine hA _ _ _ ?_ (by first | exact .inl rfl | exact .inr (by decide)) ?_; (focus (first | (simp [abuiltin, alen, alenOk, ti9, isStrD, aidx, AV.isStr, hl0, hx0]; done) | (simp [abuiltin, alen, alenOk, ti9, isStrD, aidx, AV.isStr, hl0, hx0]; omega))); clear hA hB A B) | (refine hB ?_; clear hA hB A B))
      | refine WP.sr fun k hk => ?_ | refine WP.r fun k hk => ?_ | refine WP.sd _ rfl fun k hk => ?_ | refine WP.d _ rfl fun k hk => ?_
      | (refine WP.cc fun A B hA hB => ?_; simp [abuiltin, alen, alenOk, ti9, isStrD, aidx, AV.isStr, hl0, hx0, onB_t, onB_f]; first | (refine hA ?_; clear hA hB A B) | (refine hB ?_; clear hA hB A B) | (refine onB_if (fun h => hA ?_) (fun h => hB ?_) <;> clear hA hB A B))
      | refine WP.q ?_ | refine WP.b ?_)
    have hno : numS x = (0, Lib.itoa 0 == x) := by rw [hx0]; rfl
    subst hx0
    refine WP_loop (fun n T s' => s' = s ∧ T.get 0 = .str [] ∧ T.get 5 = .int .i64 0 ∧ T.get 6 = .int .i64 0 ∧ T.get 4 = .int .i64 0) 0 ⟨rfl, by simp, by simp, by simp, by simp⟩ ?_
    rintro n T s' ⟨rfl, g0, g5, g6, g4⟩
    have w0 : IntKind.i64.wrap 0 = 0 := wrap64 (by omega) (by omega)
    have o0 : i64ok 0 = true := by decide
    rw [hno]
    repeat' (first
      | refine WP.t ?_ | refine WP.k ?_ | refine WP.e ?_ | refine Qn ?_ | refine Qr ?_ | refine Qe ?_ | refine Bn ?_ | refine Br ?_ | refine Be ?_ | refine Bx (by decide) ?_
      | (refine RS.nl ?_; refine hk _ _ ?_; clear hk k)
      | (refine RS.st fun A B hA hB => ?_; simp [abuiltin, alen, alenOk, ti9, isStrD, aidx, AV.isStr, g0, g5, g6, g4, w0, o0, G6, G5, G4, pFigA, astrop, aunop, onW_t, onW_f, onV_s]; first | (refine hA _ _ _ ?_ ?_; (focus (first | (simp [abuiltin, alen, alenOk, ti9, isStrD, aidx, AV.isStr, g0, g5, g6, g4, w0, o0, G6, G5, G4, pFigA, astrop, aunop]; done) | (simp [abuiltin, alen, alenOk, ti9, isStrD, aidx, AV.isStr, g0, g5, g6, g4, w0, o0, G6, G5, G4, pFigA, astrop, aunop]; omega))); clear hA hB A B) | (refine hB ?_; clear hA hB A B))
      | (refine RQ.nl ?_; refine hk _ _ ?_; clear hk k)
      | (refine RW.nl ?_; refine hk _ _ ?_; clear hk k)
      | (refine RW.st fun A B hA hB => ?_; simp [abuiltin, alen, alenOk, ti9, isStrD, aidx, AV.isStr, g0, g5, g6, g4, w0, o0, G6, G5, G4, pFigA, astrop, aunop, onW_t, onW_f, onV_s]; first | (refine hA _ _ _ ?_ (by first | exact .inl (by decide) | exact .inr (.inl rfl) | exact .inr (.inr rfl)) (by first | exact .inl (by decide) | exact .inr (.inl (by decide)) | exact .inr (.inr fun s2 => by simp [abuiltin, alen, alenOk, ti9, isStrD, aidx, AV.isStr, g0, g5, g6, g4, w0, o0, G6, G5, G4, pFigA, astrop, aunop])) ?_; (focus (first | (simp [abuiltin, alen, alenOk, ti9, isStrD, aidx, AV.isStr, g0, g5, g6, g4, w0, o0, G6, G5, G4, pFigA, astrop, aunop]; done) | (simp [abuiltin, alen, alenOk, ti9, isStrD, aidx, AV.isStr, g0, g5, g6, g4, w0, o0, G6, G5, G4, pFigA, astrop, aunop]; omega))); clear hA hB A B) | (refine hB ?_; clear hA hB A B))
      | (refine RQ.st fun A B hA hB => ?_; simp [abuiltin, alen, alenOk, ti9, isStrD, aidx, AV.isStr, g0, g5, g6, g4, w0, o0, G6, G5, G4, pFigA, astrop, aunop, onW_t, onW_f, onV_s]; first | (refine hA _ _ _ ?_ (by first | exact .inl rfl | exact .inr (by decide)) ?_; (focus (first | (simp [abuiltin, alen, alenOk, ti9, isStrD, aidx, AV.isStr, g0, g5, g6, g4, w0, o0, G6, G5, G4, pFigA, astrop, aunop]; done) | (simp [abuiltin, alen, alenOk, ti9, isStrD, aidx, AV.isStr, g0, g5, g6, g4, w0, o0, G6, G5, G4, pFigA, astrop, aunop]; omega))); clear hA hB A B) | (refine hB ?_; clear hA hB A B))
      | refine WP.sr fun k hk => ?_ | refine WP.r fun k hk => ?_ | refine WP.sd _ rfl fun k hk => ?_ | refine WP.d _ rfl fun k hk => ?_
      | (refine WP.cc fun A B hA hB => ?_; simp [abuiltin, alen, alenOk, ti9, isStrD, aidx, AV.isStr, g0, g5, g6, g4, w0, o0, G6, G5, G4, pFigA, astrop, aunop, onB_t, onB_f]; first | (refine hA ?_; clear hA hB A B) | (refine hB ?_; clear hA hB A B) | (refine onB_if (fun h => hA ?_) (fun h => hB ?_) <;> clear hA hB A B))
      | refine WP.q ?_ | refine WP.b ?_)
    simp
  · obtain ⟨c0, r0, hxx⟩ : ∃ c r, x = c :: r := by
      cases x with
      | nil => exact absurd rfl hx0
      | cons c r => exact ⟨c, r, rfl⟩
    have hlp : 0 < x.length := List.length_pos_iff.2 hx0
    have hlen0 : (0 : Int) < (x.length : Int) := by omega
    have hg0 : x[0] = c0 := by simp only [hxx]; rfl
    by_cases hc45 : c0 = 45
    · have hneg : negB x = true := by rw [hxx, hc45]; rfl
      have hdd : digs x = r0 := by unfold digs; rw [if_pos hneg, hxx]; rfl
      have hc1 : ((c0.toNat : Int) == 45) = true := by rw [hc45]; rfl
      generalize hdx : r0 = d at *
      have hxd : x = c0 :: d := hxx
      have hxl : x.length = d.length + 1 := by rw [hxd]; rfl
      repeat' (first
        | refine WP.t ?_ | refine WP.k ?_ | refine WP.e ?_ | refine Qn ?_ | refine Qr ?_ | refine Qe ?_ | refine Bn ?_ | refine Br ?_ | refine Be ?_ | refine Bx (by decide) ?_
        | (refine RS.nl ?_; refine hk _ _ ?_; clear hk k)
        | (refine RS.st fun A B hA hB => ?_; simp [abuiltin, alen, alenOk, ti9, isStrD, aidx, AV.isStr, hlen0, hlp, hg0, hc1, hx0, onW_t, onW_f, onV_s]; first | (refine hA _ _ _ ?_ ?_; (focus (first | (simp [abuiltin, alen, alenOk, ti9, isStrD, aidx, AV.isStr, hlen0, hlp, hg0, hc1, hx0]; done) | (simp [abuiltin, alen, alenOk, ti9, isStrD, aidx, AV.isStr, hlen0, hlp, hg0, hc1, hx0]; omega))); clear hA hB A B) | (refine hB ?_; clear hA hB A B))
        | (refine RQ.nl ?_; refine hk _ _ ?_; clear hk k)
        | (refine RW.nl ?_; refine hk _ _ ?_; clear hk k)
        | (refine RW.st fun A B hA hB => ?_; simp [abuiltin, alen, alenOk, ti9, isStrD, aidx, AV.isStr, hlen0, hlp, hg0, hc1, hx0, onW_t, onW_f, onV_s]; first | (refine hA _ _ _ ?_ (by first | exact .inl (by decide) | exact .inr (.inl rfl) | exact .inr (.inr rfl)) (by first | exact .inl (by decide) | exact .inr (.inl (by decide)) | exact .inr (.inr fun s2 => by simp [abuiltin, alen, alenOk, ti9, isStrD, aidx, AV.isStr, hlen0, hlp, hg0, hc1, hx0])) ?_; (focus (first | (simp [abuiltin, alen, alenOk, ti9, isStrD, aidx, AV.isStr, hlen0, hlp, hg0, hc1, hx0]; done) | (simp [abuiltin, alen, alenOk, ti9, isStrD, aidx, AV.isStr, hlen0, hlp, hg0, hc1, hx0]; omega))); clear hA hB A B) | (refine hB ?_; clear hA hB A B))
        | (refine RQ.st fun A B hA hB => ?_; simp [abuiltin, alen, alenOk, ti9, isStrD, aidx, AV.isStr, hlen0, hlp, hg0, hc1, hx0, onW_t, onW_f, onV_s]; first | (refine hA _ _ _ ?_ (by first | exact .inl rfl | exact .inr (by decide)) ?_; (focus (first | (simp [abuiltin, alen, alenOk, ti9, isStrD, aidx, AV.isStr, hlen0, hlp, hg0, hc1, hx0]; done) | (simp [abuiltin, alen, alenOk, ti9, isStrD, aidx, AV.isStr, hlen0, hlp, hg0, hc1, hx0]; omega))); clear hA hB A B) | (refine hB ?_; clear hA hB A B))
        | refine WP.sr fun k hk => ?_ | refine WP.r fun k hk => ?_ | refine WP.sd _ rfl fun k hk => ?_ | refine WP.d _ rfl fun k hk => ?_
        | (refine WP.cc fun A B hA hB => ?_; simp [abuiltin, alen, alenOk, ti9, isStrD, aidx, AV.isStr, hlen0, hlp, hg0, hc1, hx0, onB_t, onB_f]; first | (refine hA ?_; clear hA hB A B) | (refine hB ?_; clear hA hB A B) | (refine onB_if (fun h => hA ?_) (fun h => hB ?_) <;> clear hA hB A B))
        | refine WP.q ?_ | refine WP.b ?_)
      refine WP_loop (fun n T s' => ∃ i : Nat, n + i = d.length ∧ s' = s ∧ T.get 0 = .str x ∧ T.get 5 = .int .i64 1 ∧ T.get 6 = .int .i64 ((i + 1 : Nat) : Int) ∧ T.get 4 = .int .i64 ((d.take i).foldl numStep 0) ∧ (d.take i).all digB = true ∧ (i = 0 ∨ x.length ≤ 20)) d.length ⟨0, by simp, rfl, by simp, by simp, by simp, by simp, by simp, .inl rfl⟩ ?_
      rintro n T s' ⟨i, hn, rfl, g0, g5, g6, g4, hall, h20⟩
      by_cases hi : i < d.length
      · have ha : d[i]? = some d[i] := List.getElem?_eq_getElem hi
        have hxi : x[i + 1]? = some d[i] := by rw [hxd]; rw [List.getElem?_cons_succ]; exact ha
        have hilt : i + 1 < x.length := (List.getElem?_eq_some_iff.1 hxi).1
        have hgx : x[i + 1] = d[i] := by have := List.getElem?_eq_getElem hilt; rw [this] at hxi; exact Option.some.inj hxi
        have hw : IntKind.i64.wrap ((i : Int) + 1 + 1) = (i : Int) + 1 + 1 := wrap64 (by omega) (by omega)
        have htk : d.take (i + 1) = d.take i ++ [d[i]] := List.take_succ_eq_append_getElem hi
        have hci : (i : Int) + 1 < (x.length : Int) := by omega
        have hto : ((i : Int) + 1).toNat = i + 1 := by omega
        have hpo : 0 ≤ (i : Int) + 1 := by omega
        generalize hc : d[i] = c at *
        by_cases hdg : digB c = true
        · have hdg2 : 48 ≤ (c.toNat : Int) ∧ (c.toNat : Int) ≤ 57 := by simpa [digB] using hdg
          have e1 : ¬ (c.toNat : Int) < 48 := by omega
          have e2 : ¬ 57 < (c.toNat : Int) := by omega
          have e1' : ¬ c.toNat < 48 := by omega
          have e2' : ¬ 57 < c.toNat := by omega
          have w8 : IntKind.u8.wrap ((c.toNat : Int) - 48) = (c.toNat : Int) - 48 := wrap8 (by omega) (by omega)
          have w9 : IntKind.i64.wrap ((c.toNat : Int) - 48) = (c.toNat : Int) - 48 := wrap64 (by omega) (by omega)
          by_cases hl20 : 20 < x.length
          · have hno : numS x = (0, false) := by unfold numS numOk; rw [if_neg]; simp; omega
            rw [hno]
            have hl20' : (20 : Int) < (x.length : Int) := by omega
            repeat' (first
              | refine WP.t ?_ | refine WP.k ?_ | refine WP.e ?_ | refine Qn ?_ | refine Qr ?_ | refine Qe ?_ | refine Bn ?_ | refine Br ?_ | refine Be ?_ | refine Bx (by decide) ?_
              | (refine RS.nl ?_; refine hk _ _ ?_; clear hk k)
              | (refine RS.st fun A B hA hB => ?_; simp [abuiltin, alen, alenOk, ti9, isStrD, aidx, AV.isStr, g0, g5, g6, g4, hi, hilt, hgx, hxi, hci, hto, hpo, hc, e1, e2, e1', e2', hl20, hl20', onW_t, onW_f, onV_s]; first | (refine hA _ _ _ ?_ ?_; (focus (first | (simp [abuiltin, alen, alenOk, ti9, isStrD, aidx, AV.isStr, g0, g5, g6, g4, hi, hilt, hgx, hxi, hci, hto, hpo, hc, e1, e2, e1', e2', hl20, hl20']; done) | (simp [abuiltin, alen, alenOk, ti9, isStrD, aidx, AV.isStr, g0, g5, g6, g4, hi, hilt, hgx, hxi, hci, hto, hpo, hc, e1, e2, e1', e2', hl20, hl20']; omega))); clear hA hB A B) | (refine hB ?_; clear hA hB A B))
              | (refine RQ.nl ?_; refine hk _ _ ?_; clear hk k)
              | (refine RW.nl ?_; refine hk _ _ ?_; clear hk k)
              | (refine RW.st fun A B hA hB => ?_; simp [abuiltin, alen, alenOk, ti9, isStrD, aidx, AV.isStr, g0, g5, g6, g4, hi, hilt, hgx, hxi, hci, hto, hpo, hc, e1, e2, e1', e2', hl20, hl20', onW_t, onW_f, onV_s]; first | (refine hA _ _ _ ?_ (by first | exact .inl (by decide) | exact .inr (.inl rfl) | exact .inr (.inr rfl)) (by first | exact .inl (by decide) | exact .inr (.inl (by decide)) | exact .inr (.inr fun s2 => by simp [abuiltin, alen, alenOk, ti9, isStrD, aidx, AV.isStr, g0, g5, g6, g4, hi, hilt, hgx, hxi, hci, hto, hpo, hc, e1, e2, e1', e2', hl20, hl20'])) ?_; (focus (first | (simp [abuiltin, alen, alenOk, ti9, isStrD, aidx, AV.isStr, g0, g5, g6, g4, hi, hilt, hgx, hxi, hci, hto, hpo, hc, e1, e2, e1', e2', hl20, hl20']; done) | (simp [abuiltin, alen, alenOk, ti9, isStrD, aidx, AV.isStr, g0, g5, g6, g4, hi, hilt, hgx, hxi, hci, hto, hpo, hc, e1, e2, e1', e2', hl20, hl20']; omega))); clear hA hB A B) | (refine hB ?_; clear hA hB A B))
              | (refine RQ.st fun A B hA hB => ?_; simp [abuiltin, alen, alenOk, ti9, isStrD, aidx, AV.isStr, g0, g5, g6, g4, hi, hilt, hgx, hxi, hci, hto, hpo, hc, e1, e2, e1', e2', hl20, hl20', onW_t, onW_f, onV_s]; first | (refine hA _ _ _ ?_ (by first | exact .inl rfl | exact .inr (by decide)) ?_; (focus (first | (simp [abuiltin, alen, alenOk, ti9, isStrD, aidx, AV.isStr, g0, g5, g6, g4, hi, hilt, hgx, hxi, hci, hto, hpo, hc, e1, e2, e1', e2', hl20, hl20']; done) | (simp [abuiltin, alen, alenOk, ti9, isStrD, aidx, AV.isStr, g0, g5, g6, g4, hi, hilt, hgx, hxi, hci, hto, hpo, hc, e1, e2, e1', e2', hl20, hl20']; omega))); clear hA hB A B) | (refine hB ?_; clear hA hB A B))
              | refine WP.sr fun k hk => ?_ | refine WP.r fun k hk => ?_ | refine WP.sd _ rfl fun k hk => ?_ | refine WP.d _ rfl fun k hk => ?_
              | (refine WP.cc fun A B hA hB => ?_; simp [abuiltin, alen, alenOk, ti9, isStrD, aidx, AV.isStr, g0, g5, g6, g4, hi, hilt, hgx, hxi, hci, hto, hpo, hc, e1, e2, e1', e2', hl20, hl20', onB_t, onB_f]; first | (refine hA ?_; clear hA hB A B) | (refine hB ?_; clear hA hB A B) | (refine onB_if (fun h => hA ?_) (fun h => hB ?_) <;> clear hA hB A B))
              | refine WP.q ?_ | refine WP.b ?_)
            simp
          · have hl20' : ¬ (20 : Int) < (x.length : Int) := by omega
            repeat' (first
              | refine WP.t ?_ | refine WP.k ?_ | refine WP.e ?_ | refine Qn ?_ | refine Qr ?_ | refine Qe ?_ | refine Bn ?_ | refine Br ?_ | refine Be ?_ | refine Bx (by decide) ?_
              | (refine RS.nl ?_; refine hk _ _ ?_; clear hk k)
              | (refine RS.st fun A B hA hB => ?_; simp [abuiltin, alen, alenOk, ti9, isStrD, aidx, AV.isStr, g0, g5, g6, g4, hi, hilt, hgx, hxi, hci, hto, hpo, hc, e1, e2, e1', e2', hl20, hl20', w8, w9, hw, aconv, aconvert, ti5, ti2, onW_t, onW_f, onV_s]; first | (refine hA _ _ _ ?_ ?_; (focus (first | (simp [abuiltin, alen, alenOk, ti9, isStrD, aidx, AV.isStr, g0, g5, g6, g4, hi, hilt, hgx, hxi, hci, hto, hpo, hc, e1, e2, e1', e2', hl20, hl20', w8, w9, hw, aconv, aconvert, ti5, ti2]; done) | (simp [abuiltin, alen, alenOk, ti9, isStrD, aidx, AV.isStr, g0, g5, g6, g4, hi, hilt, hgx, hxi, hci, hto, hpo, hc, e1, e2, e1', e2', hl20, hl20', w8, w9, hw, aconv, aconvert, ti5, ti2]; omega))); clear hA hB A B) | (refine hB ?_; clear hA hB A B))
              | (refine RQ.nl ?_; refine hk _ _ ?_; clear hk k)
              | (refine RW.nl ?_; refine hk _ _ ?_; clear hk k)
              | (refine RW.st fun A B hA hB => ?_; simp [abuiltin, alen, alenOk, ti9, isStrD, aidx, AV.isStr, g0, g5, g6, g4, hi, hilt, hgx, hxi, hci, hto, hpo, hc, e1, e2, e1', e2', hl20, hl20', w8, w9, hw, aconv, aconvert, ti5, ti2, onW_t, onW_f, onV_s]; first | (refine hA _ _ _ ?_ (by first | exact .inl (by decide) | exact .inr (.inl rfl) | exact .inr (.inr rfl)) (by first | exact .inl (by decide) | exact .inr (.inl (by decide)) | exact .inr (.inr fun s2 => by simp [abuiltin, alen, alenOk, ti9, isStrD, aidx, AV.isStr, g0, g5, g6, g4, hi, hilt, hgx, hxi, hci, hto, hpo, hc, e1, e2, e1', e2', hl20, hl20', w8, w9, hw, aconv, aconvert, ti5, ti2])) ?_; (focus (first | (simp [abuiltin, alen, alenOk, ti9, isStrD, aidx, AV.isStr, g0, g5, g6, g4, hi, hilt, hgx, hxi, hci, hto, hpo, hc, e1, e2, e1', e2', hl20, hl20', w8, w9, hw, aconv, aconvert, ti5, ti2]; done) | (simp [abuiltin, alen, alenOk, ti9, isStrD, aidx, AV.isStr, g0, g5, g6, g4, hi, hilt, hgx, hxi, hci, hto, hpo, hc, e1, e2, e1', e2', hl20, hl20', w8, w9, hw, aconv, aconvert, ti5, ti2]; omega))); clear hA hB A B) | (refine hB ?_; clear hA hB A B))
              | (refine RQ.st fun A B hA hB => ?_; simp [abuiltin, alen, alenOk, ti9, isStrD, aidx, AV.isStr, g0, g5, g6, g4, hi, hilt, hgx, hxi, hci, hto, hpo, hc, e1, e2, e1', e2', hl20, hl20', w8, w9, hw, aconv, aconvert, ti5, ti2, onW_t, onW_f, onV_s]; first | (refine hA _ _ _ ?_ (by first | exact .inl rfl | exact .inr (by decide)) ?_; (focus (first | (simp [abuiltin, alen, alenOk, ti9, isStrD, aidx, AV.isStr, g0, g5, g6, g4, hi, hilt, hgx, hxi, hci, hto, hpo, hc, e1, e2, e1', e2', hl20, hl20', w8, w9, hw, aconv, aconvert, ti5, ti2]; done) | (simp [abuiltin, alen, alenOk, ti9, isStrD, aidx, AV.isStr, g0, g5, g6, g4, hi, hilt, hgx, hxi, hci, hto, hpo, hc, e1, e2, e1', e2', hl20, hl20', w8, w9, hw, aconv, aconvert, ti5, ti2]; omega))); clear hA hB A B) | (refine hB ?_; clear hA hB A B))
              | refine WP.sr fun k hk => ?_ | refine WP.r fun k hk => ?_ | refine WP.sd _ rfl fun k hk => ?_ | refine WP.d _ rfl fun k hk => ?_
              | (refine WP.cc fun A B hA hB => ?_; simp [abuiltin, alen, alenOk, ti9, isStrD, aidx, AV.isStr, g0, g5, g6, g4, hi, hilt, hgx, hxi, hci, hto, hpo, hc, e1, e2, e1', e2', hl20, hl20', w8, w9, hw, aconv, aconvert, ti5, ti2, onB_t, onB_f]; first | (refine hA ?_; clear hA hB A B) | (refine hB ?_; clear hA hB A B) | (refine onB_if (fun h => hA ?_) (fun h => hB ?_) <;> clear hA hB A B))
              | refine WP.q ?_ | refine WP.b ?_)
            refine ⟨n - 1, by omega, i + 1, by omega, rfl, by simp [g0], by simp [g5], by simp, ?_, ?_, .inr (by omega)⟩
            · rw [htk, List.foldl_append]; simp [numStep]
            · rw [htk, List.all_append, hall]; simp [hdg]
        · have hno : numS x = (0, false) := by
            unfold numS
            rw [if_neg]
            intro hk
            simp only [numOk, Bool.and_eq_true, List.all_eq_true] at hk
            exact hdg (hk.1 c (by rw [hdd, ← hc]; exact List.getElem_mem hi))
          rw [hno]
          by_cases e1 : (c.toNat : Int) < 48
          · have e1' : c.toNat < 48 := by omega
            repeat' (first
              | refine WP.t ?_ | refine WP.k ?_ | refine WP.e ?_ | refine Qn ?_ | refine Qr ?_ | refine Qe ?_ | refine Bn ?_ | refine Br ?_ | refine Be ?_ | refine Bx (by decide) ?_
              | (refine RS.nl ?_; refine hk _ _ ?_; clear hk k)
              | (refine RS.st fun A B hA hB => ?_; simp [abuiltin, alen, alenOk, ti9, isStrD, aidx, AV.isStr, g0, g5, g6, g4, hi, hilt, hgx, hxi, hci, hto, hpo, hc, e1, e1', onW_t, onW_f, onV_s]; first | (refine hA _ _ _ ?_ ?_; (focus (first | (simp [abuiltin, alen, alenOk, ti9, isStrD, aidx, AV.isStr, g0, g5, g6, g4, hi, hilt, hgx, hxi, hci, hto, hpo, hc, e1, e1']; done) | (simp [abuiltin, alen, alenOk, ti9, isStrD, aidx, AV.isStr, g0, g5, g6, g4, hi, hilt, hgx, hxi, hci, hto, hpo, hc, e1, e1']; omega))); clear hA hB A B) | (refine hB ?_; clear hA hB A B))
              | (refine RQ.nl ?_; refine hk _ _ ?_; clear hk k)
              | (refine RW.nl ?_; refine hk _ _ ?_; clear hk k)
              | (refine RW.st fun A B hA hB => ?_; simp [abuiltin, alen, alenOk, ti9, isStrD, aidx, AV.isStr, g0, g5, g6, g4, hi, hilt, hgx, hxi, hci, hto, hpo, hc, e1, e1', onW_t, onW_f, onV_s]; first | (refine hA _ _ _ ?_ (by first | exact .inl (by decide) | exact .inr (.inl rfl) | exact .inr (.inr rfl)) (by first | exact .inl (by decide) | exact .inr (.inl (by decide)) | exact .inr (.inr fun s2 => by simp [abuiltin, alen, alenOk, ti9, isStrD, aidx, AV.isStr, g0, g5, g6, g4, hi, hilt, hgx, hxi, hci, hto, hpo, hc, e1, e1'])) ?_; (focus (first | (simp [abuiltin, alen, alenOk, ti9, isStrD, aidx, AV.isStr, g0, g5, g6, g4, hi, hilt, hgx, hxi, hci, hto, hpo, hc, e1, e1']; done) | (simp [abuiltin, alen, alenOk, ti9, isStrD, aidx, AV.isStr, g0, g5, g6, g4, hi, hilt, hgx, hxi, hci, hto, hpo, hc, e1, e1']; omega))); clear hA hB A B) | (refine hB ?_; clear hA hB A B))
              | (refine RQ.st fun A B hA hB => ?_; simp [abuiltin, alen, alenOk, ti9, isStrD, aidx, AV.isStr, g0, g5, g6, g4, hi, hilt, hgx, hxi, hci, hto, hpo, hc, e1, e1', onW_t, onW_f, onV_s]; first | (refine hA _ _ _ ?_ (by first | exact .inl rfl | exact .inr (by decide)) ?_; (focus (first | (simp [abuiltin, alen, alenOk, ti9, isStrD, aidx, AV.isStr, g0, g5, g6, g4, hi, hilt, hgx, hxi, hci, hto, hpo, hc, e1, e1']; done) | (simp [abuiltin, alen, alenOk, ti9, isStrD, aidx, AV.isStr, g0, g5, g6, g4, hi, hilt, hgx, hxi, hci, hto, hpo, hc, e1, e1']; omega))); clear hA hB A B) | (refine hB ?_; clear hA hB A B))
              | refine WP.sr fun k hk => ?_ | refine WP.r fun k hk => ?_ | refine WP.sd _ rfl fun k hk => ?_ | refine WP.d _ rfl fun k hk => ?_
              | (refine WP.cc fun A B hA hB => ?_; simp [abuiltin, alen, alenOk, ti9, isStrD, aidx, AV.isStr, g0, g5, g6, g4, hi, hilt, hgx, hxi, hci, hto, hpo, hc, e1, e1', onB_t, onB_f]; first | (refine hA ?_; clear hA hB A B) | (refine hB ?_; clear hA hB A B) | (refine onB_if (fun h => hA ?_) (fun h => hB ?_) <;> clear hA hB A B))
              | refine WP.q ?_ | refine WP.b ?_)
            simp
          · have e2 : 57 < (c.toNat : Int) := by simp [digB] at hdg; omega
            have e1' : ¬ c.toNat < 48 := by omega
            have e2' : 57 < c.toNat := by omega
            repeat' (first
              | refine WP.t ?_ | refine WP.k ?_ | refine WP.e ?_ | refine Qn ?_ | refine Qr ?_ | refine Qe ?_ | refine Bn ?_ | refine Br ?_ | refine Be ?_ | refine Bx (by decide) ?_
              | (refine RS.nl ?_; refine hk _ _ ?_; clear hk k)
              | (refine RS.st fun A B hA hB => ?_; simp [abuiltin, alen, alenOk, ti9, isStrD, aidx, AV.isStr, g0, g5, g6, g4, hi, hilt, hgx, hxi, hci, hto, hpo, hc, e1, e2, e1', e2', onW_t, onW_f, onV_s]; first | (refine hA _ _ _ ?_ ?_; (focus (first | (simp [abuiltin, alen, alenOk, ti9, isStrD, aidx, AV.isStr, g0, g5, g6, g4, hi, hilt, hgx, hxi, hci, hto, hpo, hc, e1, e2, e1', e2']; done) | (simp [abuiltin, alen, alenOk, ti9, isStrD, aidx, AV.isStr, g0, g5, g6, g4, hi, hilt, hgx, hxi, hci, hto, hpo, hc, e1, e2, e1', e2']; omega))); clear hA hB A B) | (refine hB ?_; clear hA hB A B))
              | (refine RQ.nl ?_; refine hk _ _ ?_; clear hk k)
              | (refine RW.nl ?_; refine hk _ _ ?_; clear hk k)
              | (refine RW.st fun A B hA hB => ?_; simp [abuiltin, alen, alenOk, ti9, isStrD, aidx, AV.isStr, g0, g5, g6, g4, hi, hilt, hgx, hxi, hci, hto, hpo, hc, e1, e2, e1', e2', onW_t, onW_f, onV_s]; first | (refine hA _ _ _ ?_ (by first | exact .inl (by decide) | exact .inr (.inl rfl) | exact .inr (.inr rfl)) (by first | exact .inl (by decide) | exact .inr (.inl (by decide)) | exact .inr (.inr fun s2 => by simp [abuiltin, alen, alenOk, ti9, isStrD, aidx, AV.isStr, g0, g5, g6, g4, hi, hilt, hgx, hxi, hci, hto, hpo, hc, e1, e2, e1', e2'])) ?_; (focus (first | (simp [abuiltin, alen, alenOk, ti9, isStrD, aidx, AV.isStr, g0, g5, g6, g4, hi, hilt, hgx, hxi, hci, hto, hpo, hc, e1, e2, e1', e2']; done) | (simp [abuiltin, alen, alenOk, ti9, isStrD, aidx, AV.isStr, g0, g5, g6, g4, hi, hilt, hgx, hxi, hci, hto, hpo, hc, e1, e2, e1', e2']; omega))); clear hA hB A B) | (refine hB ?_; clear hA hB A B))
              | (refine RQ.st fun A B hA hB => ?_; simp [abuiltin, alen, alenOk, ti9, isStrD, aidx, AV.isStr, g0, g5, g6, g4, hi, hilt, hgx, hxi, hci, hto, hpo, hc, e1, e2, e1', e2', onW_t, onW_f, onV_s]; first | (refine hA _ _ _ ?_ (by first | exact .inl rfl | exact .inr (by decide)) ?_; (focus (first | (simp [abuiltin, alen, alenOk, ti9, isStrD, aidx, AV.isStr, g0, g5, g6, g4, hi, hilt, hgx, hxi, hci, hto, hpo, hc, e1, e2, e1', e2']; done) | (simp [abuiltin, alen, alenOk, ti9, isStrD, aidx, AV.isStr, g0, g5, g6, g4, hi, hilt, hgx, hxi, hci, hto, hpo, hc, e1, e2, e1', e2']; omega))); clear hA hB A B) | (refine hB ?_; clear hA hB A B))
              | refine WP.sr fun k hk => ?_ | refine WP.r fun k hk => ?_ | refine WP.sd _ rfl fun k hk => ?_ | refine WP.d _ rfl fun k hk => ?_
              | (refine WP.cc fun A B hA hB => ?_; simp [abuiltin, alen, alenOk, ti9, isStrD, aidx, AV.isStr, g0, g5, g6, g4, hi, hilt, hgx, hxi, hci, hto, hpo, hc, e1, e2, e1', e2', onB_t, onB_f]; first | (refine hA ?_; clear hA hB A B) | (refine hB ?_; clear hA hB A B) | (refine onB_if (fun h => hA ?_) (fun h => hB ?_) <;> clear hA hB A B))
              | refine WP.q ?_ | refine WP.b ?_)
            simp
      · have hie : i = d.length := by omega
        have hit : d.take i = d := by rw [hie, List.take_length]
        rw [hit] at g4 hall
        have hxl2 : ¬ (i : Int) + 1 < (x.length : Int) := by omega
        have hxl3 : ¬ i + 1 < x.length := by omega
        have hok : numOk x = true := by
          simp only [numOk, Bool.and_eq_true, decide_eq_true_eq]
          exact ⟨by rw [hdd]; exact hall, by omega⟩
        have hres : numS x = (numN x, Lib.itoa (numN x) == x) := by unfold numS; rw [if_pos hok]
        have hnok := numN_ok x
        have hN : numN x = d.foldl numStep 0 := by unfold numN numF; rw [if_pos hneg, hdd]
        rw [hres]
        rw [hN] at hnok ⊢
        repeat' (first
          | refine WP.t ?_ | refine WP.k ?_ | refine WP.e ?_ | refine Qn ?_ | refine Qr ?_ | refine Qe ?_ | refine Bn ?_ | refine Br ?_ | refine Be ?_ | refine Bx (by decide) ?_
          | (refine RS.nl ?_; refine hk _ _ ?_; clear hk k)
          | (refine RS.st fun A B hA hB => ?_; simp [abuiltin, alen, alenOk, ti9, isStrD, aidx, AV.isStr, g0, g5, g6, g4, hi, hxl2, hxl3, hnok, G6, G5, G4, pFigA, astrop, aunop, onW_t, onW_f, onV_s]; first | (refine hA _ _ _ ?_ ?_; (focus (first | (simp [abuiltin, alen, alenOk, ti9, isStrD, aidx, AV.isStr, g0, g5, g6, g4, hi, hxl2, hxl3, hnok, G6, G5, G4, pFigA, astrop, aunop]; done) | (simp [abuiltin, alen, alenOk, ti9, isStrD, aidx, AV.isStr, g0, g5, g6, g4, hi, hxl2, hxl3, hnok, G6, G5, G4, pFigA, astrop, aunop]; omega))); clear hA hB A B) | (refine hB ?_; clear hA hB A B))
          | (refine RQ.nl ?_; refine hk _ _ ?_; clear hk k)
          | (refine RW.nl ?_; refine hk _ _ ?_; clear hk k)
          | (refine RW.st fun A B hA hB => ?_; simp [abuiltin, alen, alenOk, ti9, isStrD, aidx, AV.isStr, g0, g5, g6, g4, hi, hxl2, hxl3, hnok, G6, G5, G4, pFigA, astrop, aunop, onW_t, onW_f, onV_s]; first | (refine hA _ _ _ ?_ (by first | exact .inl (by decide) | exact .inr (.inl rfl) | exact .inr (.inr rfl)) (by first | exact .inl (by decide) | exact .inr (.inl (by decide)) | exact .inr (.inr fun s2 => by simp [abuiltin, alen, alenOk, ti9, isStrD, aidx, AV.isStr, g0, g5, g6, g4, hi, hxl2, hxl3, hnok, G6, G5, G4, pFigA, astrop, aunop])) ?_; (focus (first | (simp [abuiltin, alen, alenOk, ti9, isStrD, aidx, AV.isStr, g0, g5, g6, g4, hi, hxl2, hxl3, hnok, G6, G5, G4, pFigA, astrop, aunop]; done) | (simp [abuiltin, alen, alenOk, ti9, isStrD, aidx, AV.isStr, g0, g5, g6, g4, hi, hxl2, hxl3, hnok, G6, G5, G4, pFigA, astrop, aunop]; omega))); clear hA hB A B) | (refine hB ?_; clear hA hB A B))
          | (refine RQ.st fun A B hA hB => ?_; simp [abuiltin, alen, alenOk, ti9, isStrD, aidx, AV.isStr, g0, g5, g6, g4, hi, hxl2, hxl3, hnok, G6, G5, G4, pFigA, astrop, aunop, onW_t, onW_f, onV_s]; first | (refine hA _ _ _ ?_ (by first | exact .inl rfl | exact .inr (by decide)) ?_; (focus (first | (simp [abuiltin, alen, alenOk, ti9, isStrD, aidx, AV.isStr, g0, g5, g6, g4, hi, hxl2, hxl3, hnok, G6, G5, G4, pFigA, astrop, aunop]; done) | (simp [abuiltin, alen, alenOk, ti9, isStrD, aidx, AV.isStr, g0, g5, g6, g4, hi, hxl2, hxl3, hnok, G6, G5, G4, pFigA, astrop, aunop]; omega))); clear hA hB A B) | (refine hB ?_; clear hA hB A B))
          | refine WP.sr fun k hk => ?_ | refine WP.r fun k hk => ?_ | refine WP.sd _ rfl fun k hk => ?_ | refine WP.d _ rfl fun k hk => ?_
          | (refine WP.cc fun A B hA hB => ?_; simp [abuiltin, alen, alenOk, ti9, isStrD, aidx, AV.isStr, g0, g5, g6, g4, hi, hxl2, hxl3, hnok, G6, G5, G4, pFigA, astrop, aunop, onB_t, onB_f]; first | (refine hA ?_; clear hA hB A B) | (refine hB ?_; clear hA hB A B) | (refine onB_if (fun h => hA ?_) (fun h => hB ?_) <;> clear hA hB A B))
          | refine WP.q ?_ | refine WP.b ?_)
        simp
    · have hneg : negB x = false := by
        rw [hxx]
        simp only [negB, List.head?_cons]
        rw [beq_eq_false_iff_ne]
        intro e
        exact hc45 (Option.some.inj e)
      have hdd : digs x = x := by unfold digs; rw [if_neg (by rw [hneg]; simp)]
      have hc1 : ((c0.toNat : Int) == 45) = false := by
        rw [beq_eq_false_iff_ne]
        intro e
        exact hc45 (by rw [← UInt8.toNat_inj]; show c0.toNat = 45; omega)
      clear hxx
      have hxl : True := trivial
      have hxd : x = x := rfl
      repeat' (first
        | refine WP.t ?_ | refine WP.k ?_ | refine WP.e ?_ | refine Qn ?_ | refine Qr ?_ | refine Qe ?_ | refine Bn ?_ | refine Br ?_ | refine Be ?_ | refine Bx (by decide) ?_
        | (refine RS.nl ?_; refine hk _ _ ?_; clear hk k)
        | (refine RS.st fun A B hA hB => ?_; simp [abuiltin, alen, alenOk, ti9, isStrD, aidx, AV.isStr, hlen0, hlp, hg0, hc1, hx0, onW_t, onW_f, onV_s]; first | (refine hA _ _ _ ?_ ?_; (focus (first | (simp [abuiltin, alen, alenOk, ti9, isStrD, aidx, AV.isStr, hlen0, hlp, hg0, hc1, hx0]; done) | (simp [abuiltin, alen, alenOk, ti9, isStrD, aidx, AV.isStr, hlen0, hlp, hg0, hc1, hx0]; omega))); clear hA hB A B) | (refine hB ?_; clear hA hB A B))
        | (refine RQ.nl ?_; refine hk _ _ ?_; clear hk k)
        | (refine RW.nl ?_; refine hk _ _ ?_; clear hk k)
        | (refine RW.st fun A B hA hB => ?_; simp [abuiltin, alen, alenOk, ti9, isStrD, aidx, AV.isStr, hlen0, hlp, hg0, hc1, hx0, onW_t, onW_f, onV_s]; first | (refine hA _ _ _ ?_ (by first | exact .inl (by decide) | exact .inr (.inl rfl) | exact .inr (.inr rfl)) (by first | exact .inl (by decide) | exact .inr (.inl (by decide)) | exact .inr (.inr fun s2 => by simp [abuiltin, alen, alenOk, ti9, isStrD, aidx, AV.isStr, hlen0, hlp, hg0, hc1, hx0])) ?_; (focus (first | (simp [abuiltin, alen, alenOk, ti9, isStrD, aidx, AV.isStr, hlen0, hlp, hg0, hc1, hx0]; done) | (simp [abuiltin, alen, alenOk, ti9, isStrD, aidx, AV.isStr, hlen0, hlp, hg0, hc1, hx0]; omega))); clear hA hB A B) | (refine hB ?_; clear hA hB A B))
        | (refine RQ.st fun A B hA hB => ?_; simp [abuiltin, alen, alenOk, ti9, isStrD, aidx, AV.isStr, hlen0, hlp, hg0, hc1, hx0, onW_t, onW_f, onV_s]; first | (refine hA _ _ _ ?_ (by first | exact .inl rfl | exact .inr (by decide)) ?_; (focus (first | (simp [abuiltin, alen, alenOk, ti9, isStrD, aidx, AV.isStr, hlen0, hlp, hg0, hc1, hx0]; done) | (simp [abuiltin, alen, alenOk, ti9, isStrD, aidx, AV.isStr, hlen0, hlp, hg0, hc1, hx0]; omega))); clear hA hB A B) | (refine hB ?_; clear hA hB A B))
        | refine WP.sr fun k hk => ?_ | refine WP.r fun k hk => ?_ | refine WP.sd _ rfl fun k hk => ?_ | refine WP.d _ rfl fun k hk => ?_
        | (refine WP.cc fun A B hA hB => ?_; simp [abuiltin, alen, alenOk, ti9, isStrD, aidx, AV.isStr, hlen0, hlp, hg0, hc1, hx0, onB_t, onB_f]; first | (refine hA ?_; clear hA hB A B) | (refine hB ?_; clear hA hB A B) | (refine onB_if (fun h => hA ?_) (fun h => hB ?_) <;> clear hA hB A B))
        | refine WP.q ?_ | refine WP.b ?_)
      refine WP_loop (fun n T s' => ∃ i : Nat, n + i = x.length ∧ s' = s ∧ T.get 0 = .str x ∧ T.get 5 = .int .i64 0 ∧ T.get 6 = .int .i64 ((i : Nat) : Int) ∧ T.get 4 = .int .i64 ((x.take i).foldl numStep 0) ∧ (x.take i).all digB = true ∧ (i = 0 ∨ x.length ≤ 20)) x.length ⟨0, by simp, rfl, by simp, by simp, by simp, by simp, by simp, .inl rfl⟩ ?_
      rintro n T s' ⟨i, hn, rfl, g0, g5, g6, g4, hall, h20⟩
      by_cases hi : i < x.length
      · have ha : x[i]? = some x[i] := List.getElem?_eq_getElem hi
        have hxi : x[i]? = some x[i] := by exact ha
        have hilt : i < x.length := (List.getElem?_eq_some_iff.1 hxi).1
        have hgx : x[i] = x[i] := rfl
        have hw : IntKind.i64.wrap ((i : Int) + 1) = (i : Int) + 1 := wrap64 (by omega) (by omega)
        have htk : x.take (i + 1) = x.take i ++ [x[i]] := List.take_succ_eq_append_getElem hi
        have hci : (((i : Nat) : Int)) < (x.length : Int) := by omega
        generalize hc : x[i] = c at *
        by_cases hdg : digB c = true
        · have hdg2 : 48 ≤ (c.toNat : Int) ∧ (c.toNat : Int) ≤ 57 := by simpa [digB] using hdg
          have e1 : ¬ (c.toNat : Int) < 48 := by omega
          have e2 : ¬ 57 < (c.toNat : Int) := by omega
          have e1' : ¬ c.toNat < 48 := by omega
          have e2' : ¬ 57 < c.toNat := by omega
          have w8 : IntKind.u8.wrap ((c.toNat : Int) - 48) = (c.toNat : Int) - 48 := wrap8 (by omega) (by omega)
          have w9 : IntKind.i64.wrap ((c.toNat : Int) - 48) = (c.toNat : Int) - 48 := wrap64 (by omega) (by omega)
          by_cases hl20 : 20 < x.length
          · have hno : numS x = (0, false) := by unfold numS numOk; rw [if_neg]; simp; omega
            rw [hno]
            have hl20' : (20 : Int) < (x.length : Int) := by omega
            repeat' (first
              | refine WP.t ?_ | refine WP.k ?_ | refine WP.e ?_ | refine Qn ?_ | refine Qr ?_ | refine Qe ?_ | refine Bn ?_ | refine Br ?_ | refine Be ?_ | refine Bx (by decide) ?_
              | (refine RS.nl ?_; refine hk _ _ ?_; clear hk k)
              | (refine RS.st fun A B hA hB => ?_; simp [abuiltin, alen, alenOk, ti9, isStrD, aidx, AV.isStr, g0, g5, g6, g4, hi, hilt, hc, hxi, hci, e1, e2, e1', e2', hl20, hl20', onW_t, onW_f, onV_s]; first | (refine hA _ _ _ ?_ ?_; (focus (first | (simp [abuiltin, alen, alenOk, ti9, isStrD, aidx, AV.isStr, g0, g5, g6, g4, hi, hilt, hc, hxi, hci, e1, e2, e1', e2', hl20, hl20']; done) | (simp [abuiltin, alen, alenOk, ti9, isStrD, aidx, AV.isStr, g0, g5, g6, g4, hi, hilt, hc, hxi, hci, e1, e2, e1', e2', hl20, hl20']; omega))); clear hA hB A B) | (refine hB ?_; clear hA hB A B))
              | (refine RQ.nl ?_; refine hk _ _ ?_; clear hk k)
              | (refine RW.nl ?_; refine hk _ _ ?_; clear hk k)
              | (refine RW.st fun A B hA hB => ?_; simp [abuiltin, alen, alenOk, ti9, isStrD, aidx, AV.isStr, g0, g5, g6, g4, hi, hilt, hc, hxi, hci, e1, e2, e1', e2', hl20, hl20', onW_t, onW_f, onV_s]; first | (refine hA _ _ _ ?_ (by first | exact .inl (by decide) | exact .inr (.inl rfl) | exact .inr (.inr rfl)) (by first | exact .inl (by decide) | exact .inr (.inl (by decide)) | exact .inr (.inr fun s2 => by simp [abuiltin, alen, alenOk, ti9, isStrD, aidx, AV.isStr, g0, g5, g6, g4, hi, hilt, hc, hxi, hci, e1, e2, e1', e2', hl20, hl20'])) ?_; (focus (first | (simp [abuiltin, alen, alenOk, ti9, isStrD, aidx, AV.isStr, g0, g5, g6, g4, hi, hilt, hc, hxi, hci, e1, e2, e1', e2', hl20, hl20']; done) | (simp [abuiltin, alen, alenOk, ti9, isStrD, aidx, AV.isStr, g0, g5, g6, g4, hi, hilt, hc, hxi, hci, e1, e2, e1', e2', hl20, hl20']; omega))); clear hA hB A B) | (refine hB ?_; clear hA hB A B))
              | (refine RQ.st fun A B hA hB => ?_; simp [abuiltin, alen, alenOk, ti9, isStrD, aidx, AV.isStr, g0, g5, g6, g4, hi, hilt, hc, hxi, hci, e1, e2, e1', e2', hl20, hl20', onW_t, onW_f, onV_s]; first | (refine hA _ _ _ ?_ (by first | exact .inl rfl | exact .inr (by decide)) ?_; (focus (first | (simp [abuiltin, alen, alenOk, ti9, isStrD, aidx, AV.isStr, g0, g5, g6, g4, hi, hilt, hc, hxi, hci, e1, e2, e1', e2', hl20, hl20']; done) | (simp [abuiltin, alen, alenOk, ti9, isStrD, aidx, AV.isStr, g0, g5, g6, g4, hi, hilt, hc, hxi, hci, e1, e2, e1', e2', hl20, hl20']; omega))); clear hA hB A B) | (refine hB ?_; clear hA hB A B))
              | refine WP.sr fun k hk => ?_ | refine WP.r fun k hk => ?_ | refine WP.sd _ rfl fun k hk => ?_ | refine WP.d _ rfl fun k hk => ?_
              | (refine WP.cc fun A B hA hB => ?_; simp [abuiltin, alen, alenOk, ti9, isStrD, aidx, AV.isStr, g0, g5, g6, g4, hi, hilt, hc, hxi, hci, e1, e2, e1', e2', hl20, hl20', onB_t, onB_f]; first | (refine hA ?_; clear hA hB A B) | (refine hB ?_; clear hA hB A B) | (refine onB_if (fun h => hA ?_) (fun h => hB ?_) <;> clear hA hB A B))
              | refine WP.q ?_ | refine WP.b ?_)
            simp
          · have hl20' : ¬ (20 : Int) < (x.length : Int) := by omega
            repeat' (first
              | refine WP.t ?_ | refine WP.k ?_ | refine WP.e ?_ | refine Qn ?_ | refine Qr ?_ | refine Qe ?_ | refine Bn ?_ | refine Br ?_ | refine Be ?_ | refine Bx (by decide) ?_
              | (refine RS.nl ?_; refine hk _ _ ?_; clear hk k)
              | (refine RS.st fun A B hA hB => ?_; simp [abuiltin, alen, alenOk, ti9, isStrD, aidx, AV.isStr, g0, g5, g6, g4, hi, hilt, hc, hxi, hci, e1, e2, e1', e2', hl20, hl20', w8, w9, hw, aconv, aconvert, ti5, ti2, onW_t, onW_f, onV_s]; first | (refine hA _ _ _ ?_ ?_; (focus (first | (simp [abuiltin, alen, alenOk, ti9, isStrD, aidx, AV.isStr, g0, g5, g6, g4, hi, hilt, hc, hxi, hci, e1, e2, e1', e2', hl20, hl20', w8, w9, hw, aconv, aconvert, ti5, ti2]; done) | (simp [abuiltin, alen, alenOk, ti9, isStrD, aidx, AV.isStr, g0, g5, g6, g4, hi, hilt, hc, hxi, hci, e1, e2, e1', e2', hl20, hl20', w8, w9, hw, aconv, aconvert, ti5, ti2]; omega))); clear hA hB A B) | (refine hB ?_; clear hA hB A B))
              | (refine RQ.nl ?_; refine hk _ _ ?_; clear hk k)
              | (refine RW.nl ?_; refine hk _ _ ?_; clear hk k)
              | (refine RW.st fun A B hA hB => ?_; simp [abuiltin, alen, alenOk, ti9, isStrD, aidx, AV.isStr, g0, g5, g6, g4, hi, hilt, hc, hxi, hci, e1, e2, e1', e2', hl20, hl20', w8, w9, hw, aconv, aconvert, ti5, ti2, onW_t, onW_f, onV_s]; first | (refine hA _ _ _ ?_ (by first | exact .inl (by decide) | exact .inr (.inl rfl) | exact .inr (.inr rfl)) (by first | exact .inl (by decide) | exact .inr (.inl (by decide)) | exact .inr (.inr fun s2 => by simp [abuiltin, alen, alenOk, ti9, isStrD, aidx, AV.isStr, g0, g5, g6, g4, hi, hilt, hc, hxi, hci, e1, e2, e1', e2', hl20, hl20', w8, w9, hw, aconv, aconvert, ti5, ti2])) ?_; (focus (first | (simp [abuiltin, alen, alenOk, ti9, isStrD, aidx, AV.isStr, g0, g5, g6, g4, hi, hilt, hc, hxi, hci, e1, e2, e1', e2', hl20, hl20', w8, w9, hw, aconv, aconvert, ti5, ti2]; done) | (simp [abuiltin, alen, alenOk, ti9, isStrD, aidx, AV.isStr, g0, g5, g6, g4, hi, hilt, hc, hxi, hci, e1, e2, e1', e2', hl20, hl20', w8, w9, hw, aconv, aconvert, ti5, ti2]; omega))); clear hA hB A B) | (refine hB ?_; clear hA hB A B))
              | (refine RQ.st fun A B hA hB => ?_; simp [abuiltin, alen, alenOk, ti9, isStrD, aidx, AV.isStr, g0, g5, g6, g4, hi, hilt, hc, hxi, hci, e1, e2, e1', e2', hl20, hl20', w8, w9, hw, aconv, aconvert, ti5, ti2, onW_t, onW_f, onV_s]; first | (refine hA _ _ _ ?_ (by first | exact .inl rfl | exact .inr (by decide)) ?_; (focus (first | (simp [abuiltin, alen, alenOk, ti9, isStrD, aidx, AV.isStr, g0, g5, g6, g4, hi, hilt, hc, hxi, hci, e1, e2, e1', e2', hl20, hl20', w8, w9, hw, aconv, aconvert, ti5, ti2]; done) | (simp [abuiltin, alen, alenOk, ti9, isStrD, aidx, AV.isStr, g0, g5, g6, g4, hi, hilt, hc, hxi, hci, e1, e2, e1', e2', hl20, hl20', w8, w9, hw, aconv, aconvert, ti5, ti2]; omega))); clear hA hB A B) | (refine hB ?_; clear hA hB A B))
              | refine WP.sr fun k hk => ?_ | refine WP.r fun k hk => ?_ | refine WP.sd _ rfl fun k hk => ?_ | refine WP.d _ rfl fun k hk => ?_
              | (refine WP.cc fun A B hA hB => ?_; simp [abuiltin, alen, alenOk, ti9, isStrD, aidx, AV.isStr, g0, g5, g6, g4, hi, hilt, hc, hxi, hci, e1, e2, e1', e2', hl20, hl20', w8, w9, hw, aconv, aconvert, ti5, ti2, onB_t, onB_f]; first | (refine hA ?_; clear hA hB A B) | (refine hB ?_; clear hA hB A B) | (refine onB_if (fun h => hA ?_) (fun h => hB ?_) <;> clear hA hB A B))
              | refine WP.q ?_ | refine WP.b ?_)
            refine ⟨n - 1, by omega, i + 1, by omega, rfl, by simp [g0], by simp [g5], by simp, ?_, ?_, .inr (by omega)⟩
            · rw [htk, List.foldl_append]; simp [numStep]
            · rw [htk, List.all_append, hall]; simp [hdg]
        · have hno : numS x = (0, false) := by
            unfold numS
            rw [if_neg]
            intro hk
            simp only [numOk, Bool.and_eq_true, List.all_eq_true] at hk
            exact hdg (hk.1 c (by rw [hdd, ← hc]; exact List.getElem_mem hi))
          rw [hno]
          by_cases e1 : (c.toNat : Int) < 48
          · have e1' : c.toNat < 48 := by omega
            repeat' (first
              | refine WP.t ?_ | refine WP.k ?_ | refine WP.e ?_ | refine Qn ?_ | refine Qr ?_ | refine Qe ?_ | refine Bn ?_ | refine Br ?_ | refine Be ?_ | refine Bx (by decide) ?_
              | (refine RS.nl ?_; refine hk _ _ ?_; clear hk k)
              | (refine RS.st fun A B hA hB => ?_; simp [abuiltin, alen, alenOk, ti9, isStrD, aidx, AV.isStr, g0, g5, g6, g4, hi, hilt, hc, hxi, hci, e1, e1', onW_t, onW_f, onV_s]; first | (refine hA _ _ _ ?_ ?_; (focus (first | (simp [abuiltin, alen, alenOk, ti9, isStrD, aidx, AV.isStr, g0, g5, g6, g4, hi, hilt, hc, hxi, hci, e1, e1']; done) | (simp [abuiltin, alen, alenOk, ti9, isStrD, aidx, AV.isStr, g0, g5, g6, g4, hi, hilt, hc, hxi, hci, e1, e1']; omega))); clear hA hB A B) | (refine hB ?_; clear hA hB A B))
              | (refine RQ.nl ?_; refine hk _ _ ?_; clear hk k)
              | (refine RW.nl ?_; refine hk _ _ ?_; clear hk k)
              | (refine RW.st fun A B hA hB => ?_; simp [abuiltin, alen, alenOk, ti9, isStrD, aidx, AV.isStr, g0, g5, g6, g4, hi, hilt, hc, hxi, hci, e1, e1', onW_t, onW_f, onV_s]; first | (refine hA _ _ _ ?_ (by first | exact .inl (by decide) | exact .inr (.inl rfl) | exact .inr (.inr rfl)) (by first | exact .inl (by decide) | exact .inr (.inl (by decide)) | exact .inr (.inr fun s2 => by simp [abuiltin, alen, alenOk, ti9, isStrD, aidx, AV.isStr, g0, g5, g6, g4, hi, hilt, hc, hxi, hci, e1, e1'])) ?_; (focus (first | (simp [abuiltin, alen, alenOk, ti9, isStrD, aidx, AV.isStr, g0, g5, g6, g4, hi, hilt, hc, hxi, hci, e1, e1']; done) | (simp [abuiltin, alen, alenOk, ti9, isStrD, aidx, AV.isStr, g0, g5, g6, g4, hi, hilt, hc, hxi, hci, e1, e1']; omega))); clear hA hB A B) | (refine hB ?_; clear hA hB A B))
              | (refine RQ.st fun A B hA hB => ?_; simp [abuiltin, alen, alenOk, ti9, isStrD, aidx, AV.isStr, g0, g5, g6, g4, hi, hilt, hc, hxi, hci, e1, e1', onW_t, onW_f, onV_s]; first | (refine hA _ _ _ ?_ (by first | exact .inl rfl | exact .inr (by decide)) ?_; (focus (first | (simp [abuiltin, alen, alenOk, ti9, isStrD, aidx, AV.isStr, g0, g5, g6, g4, hi, hilt, hc, hxi, hci, e1, e1']; done) | (simp [abuiltin, alen, alenOk, ti9, isStrD, aidx, AV.isStr, g0, g5, g6, g4, hi, hilt, hc, hxi, hci, e1, e1']; omega))); clear hA hB A B) | (refine hB ?_; clear hA hB A B))
              | refine WP.sr fun k hk => ?_ | refine WP.r fun k hk => ?_ | refine WP.sd _ rfl fun k hk => ?_ | refine WP.d _ rfl fun k hk => ?_
              | (refine WP.cc fun A B hA hB => ?_; simp [abuiltin, alen, alenOk, ti9, isStrD, aidx, AV.isStr, g0, g5, g6, g4, hi, hilt, hc, hxi, hci, e1, e1', onB_t, onB_f]; first | (refine hA ?_; clear hA hB A B) | (refine hB ?_; clear hA hB A B) | (refine onB_if (fun h => hA ?_) (fun h => hB ?_) <;> clear hA hB A B))
              | refine WP.q ?_ | refine WP.b ?_)
            simp
          · have e2 : 57 < (c.toNat : Int) := by simp [digB] at hdg; omega
            have e1' : ¬ c.toNat < 48 := by omega
            have e2' : 57 < c.toNat := by omega
            repeat' (first
              | refine WP.t ?_ | refine WP.k ?_ | refine WP.e ?_ | refine Qn ?_ | refine Qr ?_ | refine Qe ?_ | refine Bn ?_ | refine Br ?_ | refine Be ?_ | refine Bx (by decide) ?_
              | (refine RS.nl ?_; refine hk _ _ ?_; clear hk k)
              | (refine RS.st fun A B hA hB => ?_; simp [abuiltin, alen, alenOk, ti9, isStrD, aidx, AV.isStr, g0, g5, g6, g4, hi, hilt, hc, hxi, hci, e1, e2, e1', e2', onW_t, onW_f, onV_s]; first | (refine hA _ _ _ ?_ ?_; (focus (first | (simp [abuiltin, alen, alenOk, ti9, isStrD, aidx, AV.isStr, g0, g5, g6, g4, hi, hilt, hc, hxi, hci, e1, e2, e1', e2']; done) | (simp [abuiltin, alen, alenOk, ti9, isStrD, aidx, AV.isStr, g0, g5, g6, g4, hi, hilt, hc, hxi, hci, e1, e2, e1', e2']; omega))); clear hA hB A B) | (refine hB ?_; clear hA hB A B))
              | (refine RQ.nl ?_; refine hk _ _ ?_; clear hk k)
              | (refine RW.nl ?_; refine hk _ _ ?_; clear hk k)
              | (refine RW.st fun A B hA hB => ?_; simp [abuiltin, alen, alenOk, ti9, isStrD, aidx, AV.isStr, g0, g5, g6, g4, hi, hilt, hc, hxi, hci, e1, e2, e1', e2', onW_t, onW_f, onV_s]; first | (refine hA _ _ _ ?_ (by first | exact .inl (by decide) | exact .inr (.inl rfl) | exact .inr (.inr rfl)) (by first | exact .inl (by decide) | exact .inr (.inl (by decide)) | exact .inr (.inr fun s2 => by simp [abuiltin, alen, alenOk, ti9, isStrD, aidx, AV.isStr, g0, g5, g6, g4, hi, hilt, hc, hxi, hci, e1, e2, e1', e2'])) ?_; (focus (first | (simp [abuiltin, alen, alenOk, ti9, isStrD, aidx, AV.isStr, g0, g5, g6, g4, hi, hilt, hc, hxi, hci, e1, e2, e1', e2']; done) | (simp [abuiltin, alen, alenOk, ti9, isStrD, aidx, AV.isStr, g0, g5, g6, g4, hi, hilt, hc, hxi, hci, e1, e2, e1', e2']; omega))); clear hA hB A B) | (refine hB ?_; clear hA hB A B))
              | (refine RQ.st fun A B hA hB => ?_; simp [abuiltin, alen, alenOk, ti9, isStrD, aidx, AV.isStr, g0, g5, g6, g4, hi, hilt, hc, hxi, hci, e1, e2, e1', e2', onW_t, onW_f, onV_s]; first | (refine hA _ _ _ ?_ (by first | exact .inl rfl | exact .inr (by decide)) ?_; (focus (first | (simp [abuiltin, alen, alenOk, ti9, isStrD, aidx, AV.isStr, g0, g5, g6, g4, hi, hilt, hc, hxi, hci, e1, e2, e1', e2']; done) | (simp [abuiltin, alen, alenOk, ti9, isStrD, aidx, AV.isStr, g0, g5, g6, g4, hi, hilt, hc, hxi, hci, e1, e2, e1', e2']; omega))); clear hA hB A B) | (refine hB ?_; clear hA hB A B))
              | refine WP.sr fun k hk => ?_ | refine WP.r fun k hk => ?_ | refine WP.sd _ rfl fun k hk => ?_ | refine WP.d _ rfl fun k hk => ?_
              | (refine WP.cc fun A B hA hB => ?_; simp [abuiltin, alen, alenOk, ti9, isStrD, aidx, AV.isStr, g0, g5, g6, g4, hi, hilt, hc, hxi, hci, e1, e2, e1', e2', onB_t, onB_f]; first | (refine hA ?_; clear hA hB A B) | (refine hB ?_; clear hA hB A B) | (refine onB_if (fun h => hA ?_) (fun h => hB ?_) <;> clear hA hB A B))
              | refine WP.q ?_ | refine WP.b ?_)
            simp
      · have hie : i = x.length := by omega
        have hit : x.take i = x := by rw [hie, List.take_length]
        rw [hit] at g4 hall
        have hxl2 : ¬ (((i : Nat) : Int)) < (x.length : Int) := by omega
        have hxl3 : ¬ i < x.length := by omega
        have hok : numOk x = true := by
          simp only [numOk, Bool.and_eq_true, decide_eq_true_eq]
          exact ⟨by rw [hdd]; exact hall, by omega⟩
        have hres : numS x = (numN x, Lib.itoa (numN x) == x) := by unfold numS; rw [if_pos hok]
        have hnok := numN_ok x
        have hN : numN x = IntKind.i64.wrap (0 - x.foldl numStep 0) := by unfold numN numF; rw [if_neg (by rw [hneg]; simp), hdd]
        rw [hres]
        rw [hN] at hnok ⊢
        rw [Int.zero_sub] at hnok ⊢
        repeat' (first
          | refine WP.t ?_ | refine WP.k ?_ | refine WP.e ?_ | refine Qn ?_ | refine Qr ?_ | refine Qe ?_ | refine Bn ?_ | refine Br ?_ | refine Be ?_ | refine Bx (by decide) ?_
          | (refine RS.nl ?_; refine hk _ _ ?_; clear hk k)
          | (refine RS.st fun A B hA hB => ?_; simp [abuiltin, alen, alenOk, ti9, isStrD, aidx, AV.isStr, g0, g5, g6, g4, hi, hxl2, hxl3, hnok, G6, G5, G4, pFigA, astrop, aunop, onW_t, onW_f, onV_s]; first | (refine hA _ _ _ ?_ ?_; (focus (first | (simp [abuiltin, alen, alenOk, ti9, isStrD, aidx, AV.isStr, g0, g5, g6, g4, hi, hxl2, hxl3, hnok, G6, G5, G4, pFigA, astrop, aunop]; done) | (simp [abuiltin, alen, alenOk, ti9, isStrD, aidx, AV.isStr, g0, g5, g6, g4, hi, hxl2, hxl3, hnok, G6, G5, G4, pFigA, astrop, aunop]; omega))); clear hA hB A B) | (refine hB ?_; clear hA hB A B))
          | (refine RQ.nl ?_; refine hk _ _ ?_; clear hk k)
          | (refine RW.nl ?_; refine hk _ _ ?_; clear hk k)
          | (refine RW.st fun A B hA hB => ?_; simp [abuiltin, alen, alenOk, ti9, isStrD, aidx, AV.isStr, g0, g5, g6, g4, hi, hxl2, hxl3, hnok, G6, G5, G4, pFigA, astrop, aunop, onW_t, onW_f, onV_s]; first | (refine hA _ _ _ ?_ (by first | exact .inl (by decide) | exact .inr (.inl rfl) | exact .inr (.inr rfl)) (by first | exact .inl (by decide) | exact .inr (.inl (by decide)) | exact .inr (.inr fun s2 => by simp [abuiltin, alen, alenOk, ti9, isStrD, aidx, AV.isStr, g0, g5, g6, g4, hi, hxl2, hxl3, hnok, G6, G5, G4, pFigA, astrop, aunop])) ?_; (focus (first | (simp [abuiltin, alen, alenOk, ti9, isStrD, aidx, AV.isStr, g0, g5, g6, g4, hi, hxl2, hxl3, hnok, G6, G5, G4, pFigA, astrop, aunop]; done) | (simp [abuiltin, alen, alenOk, ti9, isStrD, aidx, AV.isStr, g0, g5, g6, g4, hi, hxl2, hxl3, hnok, G6, G5, G4, pFigA, astrop, aunop]; omega))); clear hA hB A B) | (refine hB ?_; clear hA hB A B))
          | (refine RQ.st fun A B hA hB => ?_; simp [abuiltin, alen, alenOk, ti9, isStrD, aidx, AV.isStr, g0, g5, g6, g4, hi, hxl2, hxl3, hnok, G6, G5, G4, pFigA, astrop, aunop, onW_t, onW_f, onV_s]; first | (refine hA _ _ _ ?_ (by first | exact .inl rfl | exact .inr (by decide)) ?_; (focus (first | (simp [abuiltin, alen, alenOk, ti9, isStrD, aidx, AV.isStr, g0, g5, g6, g4, hi, hxl2, hxl3, hnok, G6, G5, G4, pFigA, astrop, aunop]; done) | (simp [abuiltin, alen, alenOk, ti9, isStrD, aidx, AV.isStr, g0, g5, g6, g4, hi, hxl2, hxl3, hnok, G6, G5, G4, pFigA, astrop, aunop]; omega))); clear hA hB A B) | (refine hB ?_; clear hA hB A B))
          | refine WP.sr fun k hk => ?_ | refine WP.r fun k hk => ?_ | refine WP.sd _ rfl fun k hk => ?_ | refine WP.d _ rfl fun k hk => ?_
          | (refine WP.cc fun A B hA hB => ?_; simp [abuiltin, alen, alenOk, ti9, isStrD, aidx, AV.isStr, g0, g5, g6, g4, hi, hxl2, hxl3, hnok, G6, G5, G4, pFigA, astrop, aunop, onB_t, onB_f]; first | (refine hA ?_; clear hA hB A B) | (refine hB ?_; clear hA hB A B) | (refine onB_if (fun h => hA ?_) (fun h => hB ?_) <;> clear hA hB A B))
          | refine WP.q ?_ | refine WP.b ?_)
        simp
def pNum : List AV → Option AV
  | [.str x] => if x.length ≤ 100000000 then some (.tup [.int .i64 (numS x).1, .bool (numS x).2]) else none
  | _ => none
noncomputable def G7 : Fns := G6.addP 39 pNum
theorem G7_ok (hK : 3 < K) (hT : Tens gw) (hE : Errs gw) : FOk (env K gw) G7 := by
  refine (G6_ok hK hT hE).addP ?_
  intro xs s r h; unfold pNum at h; split at h
  · split at h
    · rename_i hc; cases h; exact ft39 hK hT hE _ hc
    · cases h
  · cases h
end
end Go.Am
