/- Part of the proof: abstract values over the given model of Go (T23, T24). Conditions: none of its own; see the statement in the seat's Rows text. -/
import Derived.Test.YtnpidlhooilddaaDoorAmTH
import Derived.Test.YtnpidlhooilddaaDoorAmPc
set_option linter.unusedSimpArgs false
set_option linter.unusedVariables false
set_option linter.unusedSectionVars false
namespace Go.Am
open Go.Proofs
section
variable {K : Nat} {gw : World} {s : St}
attribute [local simp] RS_cons' RS_nil RQ_nil RQ_cons' awanted xop zOf zrow aop ev T0 Slots.put Slots.set Slots.get awr WOk AV.may ofConst abinop aint isConst St.get_push St.get_put St.live AV.fit AV.cells AV.one fieldOf afieldAddr aload ofCells astore splice May eqres env_ti FinP ares aresL ares1 Fns.addP Fns.add
def backRA (x : List UInt8) : AV := match backR x with
  | some l => .tup [.sl (l.map V.cs), .int .i64 0]
  | none => .tup [.sl [], .int .i64 2]
theorem partR_at {x : List UInt8} {p j : Nat} (hpj : p + 1 ≤ j) (hj : j < x.length) (hno : ∀ b ∈ (x.drop (p + 1)).take (j - (p + 1)), b ≠ 58) (h58 : x[j] = 58) (hp : p < x.length) :
    partR (x.drop p) = (if (numS ((x.drop (p + 1)).take (j - (p + 1)))).2 = false ∨ (numS ((x.drop (p + 1)).take (j - (p + 1)))).1 < 0 ∨ ((x.drop (j + 1)).length : Int) < (numS ((x.drop (p + 1)).take (j - (p + 1)))).1 then none else
      if x[p] = 115 then some (⟨true, (x.drop (j + 1)).take (numS ((x.drop (p + 1)).take (j - (p + 1)))).1.toNat, 0⟩, (x.drop (j + 1)).drop (numS ((x.drop (p + 1)).take (j - (p + 1)))).1.toNat) else
      if x[p] = 110 ∧ (numS ((x.drop (j + 1)).take (numS ((x.drop (p + 1)).take (j - (p + 1)))).1.toNat)).2 = true then some (⟨false, [], (numS ((x.drop (j + 1)).take (numS ((x.drop (p + 1)).take (j - (p + 1)))).1.toNat)).1⟩, (x.drop (j + 1)).drop (numS ((x.drop (p + 1)).take (j - (p + 1)))).1.toNat) else none) := by
  have hlt : j - (p + 1) < (x.drop (p + 1)).length := by rw [List.length_drop]; omega
  have e2 : p + 1 + (j - (p + 1)) = j := by omega
  have hup : upC (x.drop (p + 1)) = (x.drop (p + 1)).take (j - (p + 1)) := upC_take _ _ (by omega) hno (fun h => by rw [List.getElem_drop]; simp only [e2]; exact h58)
  have hlen : ((x.drop (p + 1)).take (j - (p + 1))).length = j - (p + 1) := by rw [List.length_take]; omega
  have hd : (x.drop (p + 1)).drop (j - (p + 1)) = 58 :: x.drop (j + 1) := by
    rw [List.drop_drop, e2, List.drop_eq_getElem_cons hj, h58]
  rw [List.drop_eq_getElem_cons hp]
  unfold partR
  simp only [hup, hlen, hd]
theorem partR_end {x : List UInt8} {p : Nat} (hno : ∀ b ∈ x.drop (p + 1), b ≠ 58) (hp : p < x.length) : partR (x.drop p) = none := by
  have hup : upC (x.drop (p + 1)) = x.drop (p + 1) := by
    have := upC_take (x.drop (p + 1)) (x.drop (p + 1)).length (Nat.le_refl _) (by rw [List.take_length]; exact hno) (fun h => by omega)
    rw [List.take_length] at this
    exact this
  rw [List.drop_eq_getElem_cons hp]
  unfold partR
  simp only [hup, List.drop_length]
set_option maxRecDepth 20000 in
set_option maxHeartbeats 16000000 in
theorem ft21 (hK : 3 < K) (hT : Tens gw) (hE : Errs gw) (x : List UInt8) (hl : x.length ≤ 100000000) : FT (env K gw) NoW 21 [.str x] s (backRA x) s := by
  refine FT.data (fn := Tryd.f21) (G7_ok hK hT hE) mixed Tryd.func21 (by kernel_rfl) (by rfl) rfl rfl (by simp) rfl fun μ w => ?_
  repeat' (first
    | refine WP.t ?_ | refine WP.k ?_ | refine WP.e ?_ | refine Qn ?_ | refine Qr ?_ | refine Qe ?_ | refine Bn ?_ | refine Br ?_ | refine Be ?_ | refine Bx (by decide) ?_
    | (refine RS.nl ?_; refine hk _ _ ?_; clear hk k)
    | (refine RS.st fun A B hA hB => ?_; simp [G7, onW_t, onW_f, onV_s]; first | (refine hA _ _ _ ?_ ?_; (focus (first | (simp [G7]; done) | (simp [G7]; omega))); clear hA hB A B) | (refine hB ?_; clear hA hB A B))
    | (refine RQ.nl ?_; refine hk _ _ ?_; clear hk k)
    | (refine RW.nl ?_; refine hk _ _ ?_; clear hk k)
    | (refine RW.st fun A B hA hB => ?_; simp [G7, onW_t, onW_f, onV_s]; first | (refine hA _ _ _ ?_ (by first | exact .inl (by decide) | exact .inr (.inl rfl) | exact .inr (.inr rfl)) (by first | exact .inl (by decide) | exact .inr (.inl (by decide)) | exact .inr (.inr fun s2 => by simp [G7])) ?_; (focus (first | (simp [G7]; done) | (simp [G7]; omega))); clear hA hB A B) | (refine hB ?_; clear hA hB A B))
    | (refine RQ.st fun A B hA hB => ?_; simp [G7, onW_t, onW_f, onV_s]; first | (refine hA _ _ _ ?_ (by first | exact .inl rfl | exact .inr (by decide)) ?_; (focus (first | (simp [G7]; done) | (simp [G7]; omega))); clear hA hB A B) | (refine hB ?_; clear hA hB A B))
    | refine WP.sr fun k hk => ?_ | refine WP.r fun k hk => ?_ | refine WP.sd _ rfl fun k hk => ?_ | refine WP.d _ rfl fun k hk => ?_
    | (refine WP.cc fun A B hA hB => ?_; simp [G7, onB_t, onB_f]; first | (refine hA ?_; clear hA hB A B) | (refine hB ?_; clear hA hB A B) | (refine onB_if (fun h => hA ?_) (fun h => hB ?_) <;> clear hA hB A B))
    | refine WP.q ?_ | refine WP.b ?_)
  refine WP_loop (fun n T s' => ∃ (p : Nat) (acc : List V), n + p = x.length ∧ T.get 0 = .str x ∧ T.get 5 = .int .i64 p ∧ s.nx ≤ s'.nx ∧ acc.length ≤ p ∧ backR x = (backR (x.drop p)).map (acc ++ ·) ∧
    ((acc = [] ∧ T.get 4 = .nsl) ∨ (acc ≠ [] ∧ ∃ rd, s.nx ≤ rd ∧ rd < s'.nx ∧ T.get 4 = .ls rd 0 acc.length ∧ s'.get rd = some (.row 3 (true, 34) (acc.map V.cs))))) x.length ⟨0, [], by simp, by simp, by simp, by simp, by simp, by simp, .inl ⟨rfl, by simp⟩⟩ ?_
  rintro n T s' ⟨p, acc, hn, g0, g5, hnx, hap, hback, hB⟩
  by_cases hp : p < x.length
  · have hpi : (p : Int) < (x.length : Int) := by omega
    have hdne : x.drop p ≠ [] := fun e => by
      have := congrArg List.length e
      rw [List.length_drop] at this
      simp only [List.length_nil] at this
      omega
    have w1 : IntKind.i64.wrap ((p : Int) + 1) = (p : Int) + 1 := wrap64 (by omega) (by omega)
    repeat' (first
      | refine WP.t ?_ | refine WP.k ?_ | refine WP.e ?_ | refine Qn ?_ | refine Qr ?_ | refine Qe ?_ | refine Bn ?_ | refine Br ?_ | refine Be ?_ | refine Bx (by decide) ?_
      | (refine RS.nl ?_; refine hk _ _ ?_; clear hk k)
      | (refine RS.st fun A B hA hB => ?_; simp [g0, g5, hp, hpi, w1, abuiltin, alen, alenOk, ti9, onW_t, onW_f, onV_s]; first | (refine hA _ _ _ ?_ ?_; (focus (first | (simp [g0, g5, hp, hpi, w1, abuiltin, alen, alenOk, ti9]; done) | (simp [g0, g5, hp, hpi, w1, abuiltin, alen, alenOk, ti9]; omega))); clear hA hB A B) | (refine hB ?_; clear hA hB A B))
      | (refine RQ.nl ?_; refine hk _ _ ?_; clear hk k)
      | (refine RW.nl ?_; refine hk _ _ ?_; clear hk k)
      | (refine RW.st fun A B hA hB => ?_; simp [g0, g5, hp, hpi, w1, abuiltin, alen, alenOk, ti9, onW_t, onW_f, onV_s]; first | (refine hA _ _ _ ?_ (by first | exact .inl (by decide) | exact .inr (.inl rfl) | exact .inr (.inr rfl)) (by first | exact .inl (by decide) | exact .inr (.inl (by decide)) | exact .inr (.inr fun s2 => by simp [g0, g5, hp, hpi, w1, abuiltin, alen, alenOk, ti9])) ?_; (focus (first | (simp [g0, g5, hp, hpi, w1, abuiltin, alen, alenOk, ti9]; done) | (simp [g0, g5, hp, hpi, w1, abuiltin, alen, alenOk, ti9]; omega))); clear hA hB A B) | (refine hB ?_; clear hA hB A B))
      | (refine RQ.st fun A B hA hB => ?_; simp [g0, g5, hp, hpi, w1, abuiltin, alen, alenOk, ti9, onW_t, onW_f, onV_s]; first | (refine hA _ _ _ ?_ (by first | exact .inl rfl | exact .inr (by decide)) ?_; (focus (first | (simp [g0, g5, hp, hpi, w1, abuiltin, alen, alenOk, ti9]; done) | (simp [g0, g5, hp, hpi, w1, abuiltin, alen, alenOk, ti9]; omega))); clear hA hB A B) | (refine hB ?_; clear hA hB A B))
      | refine WP.sr fun k hk => ?_ | refine WP.r fun k hk => ?_ | refine WP.sd _ rfl fun k hk => ?_ | refine WP.d _ rfl fun k hk => ?_
      | (refine WP.cc fun A B hA hB => ?_; simp [g0, g5, hp, hpi, w1, abuiltin, alen, alenOk, ti9, onB_t, onB_f]; first | (refine hA ?_; clear hA hB A B) | (refine hB ?_; clear hA hB A B) | (refine onB_if (fun h => hA ?_) (fun h => hB ?_) <;> clear hA hB A B))
      | refine WP.q ?_ | refine WP.b ?_)
    generalize hg4 : T.get 4 = g at *
    refine WP_loop (fun n2 T2 s2 => ∃ j : Nat, n2 + j = x.length ∧ s2 = s' ∧ T2.get 0 = .str x ∧ T2.get 5 = .int .i64 p ∧ T2.get 6 = .int .i64 j ∧ T2.get 4 = g ∧ p + 1 ≤ j ∧ j ≤ x.length ∧ ∀ b ∈ (x.drop (p + 1)).take (j - (p + 1)), b ≠ 58) (x.length - (p + 1))
      ⟨p + 1, by omega, rfl, by simp [g0], by simp [g5], by simp, by simp [hg4], Nat.le_refl _, by omega, by simp⟩ ?_
    rintro n2 T2 s2 ⟨j, hnj, rfl, k0, k5, k6, k4, hpj, hjl, hno⟩
    by_cases hj : j < x.length
    · have hji : (j : Int) < (x.length : Int) := by omega
      have hj58 : ∀ c : UInt8, ((c.toNat : Int) != 58) = (c != 58) := fun c => by
        by_cases h : c = 58
        · subst h; rfl
        · have h1 : (c != 58) = true := by simpa using h
          rw [h1, bne_iff_ne]
          intro e
          exact h (by rw [← UInt8.toNat_inj]; show c.toNat = 58; omega)
      by_cases h58 : x[j] = 58
      · have e58 : ((x[j].toNat : Int) == 58) = true := by rw [h58]; rfl
        have n58 : ((x[j].toNat : Int) != 58) = false := by rw [h58]; rfl
        have hpart := partR_at hpj hj hno h58 hp
        have hji2 : ¬ (x.length : Int) ≤ (j : Int) := by omega
        have tp : ((p : Int) + 1).toNat = p + 1 := by omega
        have hp1 : 0 ≤ (p : Int) + 1 := by omega
        have hp2 : (p : Int) + 1 ≤ (j : Int) := by omega
        have hp3 : (j : Int) ≤ (x.length : Int) := by omega
        have hcl : ((x.drop (p + 1)).take (j - (p + 1))).length ≤ 100000000 := by rw [List.length_take, List.length_drop]; omega
        generalize hc : (x.drop (p + 1)).take (j - (p + 1)) = c at *
        have hbad : partR (x.drop p) = none → backRA x = .tup [.sl [], .int .i64 2] := fun h => by
          unfold backRA
          rw [hback, backR_bad hdne h]
          rfl
        cases hnum : numS c with
        | mk nv is =>
        rw [hnum] at hpart
        simp only at hpart
        cases is with
        | false =>
          rw [if_pos (.inl rfl)] at hpart
          rw [hbad hpart]
          repeat' (first
            | refine WP.t ?_ | refine WP.k ?_ | refine WP.e ?_ | refine Qn ?_ | refine Qr ?_ | refine Qe ?_ | refine Bn ?_ | refine Br ?_ | refine Be ?_ | refine Bx (by decide) ?_
            | (refine RS.nl ?_; refine hk _ _ ?_; clear hk k)
            | (refine RS.st fun A B hA hB => ?_; simp [k0, k5, k6, k4, abuiltin, alen, alenOk, ti9, isStrD, aidx, AV.isStr, hj, hji, hji2, n58, w1, tp, hp1, hp2, hp3, hc, hcl, pNum, hnum, aextract, aunop, G7, abound, asliceOk, aslice, onW_t, onW_f, onV_s]; first | (refine hA _ _ _ ?_ ?_; (focus (first | (simp [k0, k5, k6, k4, abuiltin, alen, alenOk, ti9, isStrD, aidx, AV.isStr, hj, hji, hji2, n58, w1, tp, hp1, hp2, hp3, hc, hcl, pNum, hnum, aextract, aunop, G7, abound, asliceOk, aslice]; done) | (simp [k0, k5, k6, k4, abuiltin, alen, alenOk, ti9, isStrD, aidx, AV.isStr, hj, hji, hji2, n58, w1, tp, hp1, hp2, hp3, hc, hcl, pNum, hnum, aextract, aunop, G7, abound, asliceOk, aslice]; omega))); clear hA hB A B) | (refine hB ?_; clear hA hB A B))
            | (refine RQ.nl ?_; refine hk _ _ ?_; clear hk k)
            | (refine RW.nl ?_; refine hk _ _ ?_; clear hk k)
            | (refine RW.st fun A B hA hB => ?_; simp [k0, k5, k6, k4, abuiltin, alen, alenOk, ti9, isStrD, aidx, AV.isStr, hj, hji, hji2, n58, w1, tp, hp1, hp2, hp3, hc, hcl, pNum, hnum, aextract, aunop, G7, abound, asliceOk, aslice, onW_t, onW_f, onV_s]; first | (refine hA _ _ _ ?_ (by first | exact .inl (by decide) | exact .inr (.inl rfl) | exact .inr (.inr rfl)) (by first | exact .inl (by decide) | exact .inr (.inl (by decide)) | exact .inr (.inr fun s2 => by simp [k0, k5, k6, k4, abuiltin, alen, alenOk, ti9, isStrD, aidx, AV.isStr, hj, hji, hji2, n58, w1, tp, hp1, hp2, hp3, hc, hcl, pNum, hnum, aextract, aunop, G7, abound, asliceOk, aslice])) ?_; (focus (first | (simp [k0, k5, k6, k4, abuiltin, alen, alenOk, ti9, isStrD, aidx, AV.isStr, hj, hji, hji2, n58, w1, tp, hp1, hp2, hp3, hc, hcl, pNum, hnum, aextract, aunop, G7, abound, asliceOk, aslice]; done) | (simp [k0, k5, k6, k4, abuiltin, alen, alenOk, ti9, isStrD, aidx, AV.isStr, hj, hji, hji2, n58, w1, tp, hp1, hp2, hp3, hc, hcl, pNum, hnum, aextract, aunop, G7, abound, asliceOk, aslice]; omega))); clear hA hB A B) | (refine hB ?_; clear hA hB A B))
            | (refine RQ.st fun A B hA hB => ?_; simp [k0, k5, k6, k4, abuiltin, alen, alenOk, ti9, isStrD, aidx, AV.isStr, hj, hji, hji2, n58, w1, tp, hp1, hp2, hp3, hc, hcl, pNum, hnum, aextract, aunop, G7, abound, asliceOk, aslice, onW_t, onW_f, onV_s]; first | (refine hA _ _ _ ?_ (by first | exact .inl rfl | exact .inr (by decide)) ?_; (focus (first | (simp [k0, k5, k6, k4, abuiltin, alen, alenOk, ti9, isStrD, aidx, AV.isStr, hj, hji, hji2, n58, w1, tp, hp1, hp2, hp3, hc, hcl, pNum, hnum, aextract, aunop, G7, abound, asliceOk, aslice]; done) | (simp [k0, k5, k6, k4, abuiltin, alen, alenOk, ti9, isStrD, aidx, AV.isStr, hj, hji, hji2, n58, w1, tp, hp1, hp2, hp3, hc, hcl, pNum, hnum, aextract, aunop, G7, abound, asliceOk, aslice]; omega))); clear hA hB A B) | (refine hB ?_; clear hA hB A B))
            | refine WP.sr fun k hk => ?_ | refine WP.r fun k hk => ?_ | refine WP.sd _ rfl fun k hk => ?_ | refine WP.d _ rfl fun k hk => ?_
            | (refine WP.cc fun A B hA hB => ?_; simp [k0, k5, k6, k4, abuiltin, alen, alenOk, ti9, isStrD, aidx, AV.isStr, hj, hji, hji2, n58, w1, tp, hp1, hp2, hp3, hc, hcl, pNum, hnum, aextract, aunop, G7, abound, asliceOk, aslice, onB_t, onB_f]; first | (refine hA ?_; clear hA hB A B) | (refine hB ?_; clear hA hB A B) | (refine onB_if (fun h => hA ?_) (fun h => hB ?_) <;> clear hA hB A B))
            | refine WP.q ?_ | refine WP.b ?_)
          exact ⟨.inr rfl, .tup [.nsl, .int .i64 2], by simp, frz_bad2⟩
        | true =>
          by_cases hnv : nv < 0
          · rw [if_pos (.inr (.inl hnv))] at hpart
            rw [hbad hpart]
            repeat' (first
              | refine WP.t ?_ | refine WP.k ?_ | refine WP.e ?_ | refine Qn ?_ | refine Qr ?_ | refine Qe ?_ | refine Bn ?_ | refine Br ?_ | refine Be ?_ | refine Bx (by decide) ?_
              | (refine RS.nl ?_; refine hk _ _ ?_; clear hk k)
              | (refine RS.st fun A B hA hB => ?_; simp [k0, k5, k6, k4, abuiltin, alen, alenOk, ti9, isStrD, aidx, AV.isStr, hj, hji, hji2, n58, w1, tp, hp1, hp2, hp3, hc, hcl, pNum, hnum, aextract, aunop, G7, abound, asliceOk, aslice, hnv, onW_t, onW_f, onV_s]; first | (refine hA _ _ _ ?_ ?_; (focus (first | (simp [k0, k5, k6, k4, abuiltin, alen, alenOk, ti9, isStrD, aidx, AV.isStr, hj, hji, hji2, n58, w1, tp, hp1, hp2, hp3, hc, hcl, pNum, hnum, aextract, aunop, G7, abound, asliceOk, aslice, hnv]; done) | (simp [k0, k5, k6, k4, abuiltin, alen, alenOk, ti9, isStrD, aidx, AV.isStr, hj, hji, hji2, n58, w1, tp, hp1, hp2, hp3, hc, hcl, pNum, hnum, aextract, aunop, G7, abound, asliceOk, aslice, hnv]; omega))); clear hA hB A B) | (refine hB ?_; clear hA hB A B))
              | (refine RQ.nl ?_; refine hk _ _ ?_; clear hk k)
              | (refine RW.nl ?_; refine hk _ _ ?_; clear hk k)
              | (refine RW.st fun A B hA hB => ?_; simp [k0, k5, k6, k4, abuiltin, alen, alenOk, ti9, isStrD, aidx, AV.isStr, hj, hji, hji2, n58, w1, tp, hp1, hp2, hp3, hc, hcl, pNum, hnum, aextract, aunop, G7, abound, asliceOk, aslice, hnv, onW_t, onW_f, onV_s]; first | (refine hA _ _ _ ?_ (by first | exact .inl (by decide) | exact .inr (.inl rfl) | exact .inr (.inr rfl)) (by first | exact .inl (by decide) | exact .inr (.inl (by decide)) | exact .inr (.inr fun s2 => by simp [k0, k5, k6, k4, abuiltin, alen, alenOk, ti9, isStrD, aidx, AV.isStr, hj, hji, hji2, n58, w1, tp, hp1, hp2, hp3, hc, hcl, pNum, hnum, aextract, aunop, G7, abound, asliceOk, aslice, hnv])) ?_; (focus (first | (simp [k0, k5, k6, k4, abuiltin, alen, alenOk, ti9, isStrD, aidx, AV.isStr, hj, hji, hji2, n58, w1, tp, hp1, hp2, hp3, hc, hcl, pNum, hnum, aextract, aunop, G7, abound, asliceOk, aslice, hnv]; done) | (simp [k0, k5, k6, k4, abuiltin, alen, alenOk, ti9, isStrD, aidx, AV.isStr, hj, hji, hji2, n58, w1, tp, hp1, hp2, hp3, hc, hcl, pNum, hnum, aextract, aunop, G7, abound, asliceOk, aslice, hnv]; omega))); clear hA hB A B) | (refine hB ?_; clear hA hB A B))
              | (refine RQ.st fun A B hA hB => ?_; simp [k0, k5, k6, k4, abuiltin, alen, alenOk, ti9, isStrD, aidx, AV.isStr, hj, hji, hji2, n58, w1, tp, hp1, hp2, hp3, hc, hcl, pNum, hnum, aextract, aunop, G7, abound, asliceOk, aslice, hnv, onW_t, onW_f, onV_s]; first | (refine hA _ _ _ ?_ (by first | exact .inl rfl | exact .inr (by decide)) ?_; (focus (first | (simp [k0, k5, k6, k4, abuiltin, alen, alenOk, ti9, isStrD, aidx, AV.isStr, hj, hji, hji2, n58, w1, tp, hp1, hp2, hp3, hc, hcl, pNum, hnum, aextract, aunop, G7, abound, asliceOk, aslice, hnv]; done) | (simp [k0, k5, k6, k4, abuiltin, alen, alenOk, ti9, isStrD, aidx, AV.isStr, hj, hji, hji2, n58, w1, tp, hp1, hp2, hp3, hc, hcl, pNum, hnum, aextract, aunop, G7, abound, asliceOk, aslice, hnv]; omega))); clear hA hB A B) | (refine hB ?_; clear hA hB A B))
              | refine WP.sr fun k hk => ?_ | refine WP.r fun k hk => ?_ | refine WP.sd _ rfl fun k hk => ?_ | refine WP.d _ rfl fun k hk => ?_
              | (refine WP.cc fun A B hA hB => ?_; simp [k0, k5, k6, k4, abuiltin, alen, alenOk, ti9, isStrD, aidx, AV.isStr, hj, hji, hji2, n58, w1, tp, hp1, hp2, hp3, hc, hcl, pNum, hnum, aextract, aunop, G7, abound, asliceOk, aslice, hnv, onB_t, onB_f]; first | (refine hA ?_; clear hA hB A B) | (refine hB ?_; clear hA hB A B) | (refine onB_if (fun h => hA ?_) (fun h => hB ?_) <;> clear hA hB A B))
              | refine WP.q ?_ | refine WP.b ?_)
            exact ⟨.inr rfl, .tup [.nsl, .int .i64 2], by simp, frz_bad2⟩
          · have w3 : IntKind.i64.wrap ((x.length : Int) - (j : Int)) = (x.length : Int) - (j : Int) := wrap64 (by omega) (by omega)
            have w4 : IntKind.i64.wrap ((x.length : Int) - (j : Int) - 1) = (x.length : Int) - (j : Int) - 1 := wrap64 (by omega) (by omega)
            by_cases hnv2 : (x.length : Int) - (j : Int) - 1 < nv
            · rw [if_pos (.inr (.inr (by rw [List.length_drop]; omega)))] at hpart
              rw [hbad hpart]
              repeat' (first
                | refine WP.t ?_ | refine WP.k ?_ | refine WP.e ?_ | refine Qn ?_ | refine Qr ?_ | refine Qe ?_ | refine Bn ?_ | refine Br ?_ | refine Be ?_ | refine Bx (by decide) ?_
                | (refine RS.nl ?_; refine hk _ _ ?_; clear hk k)
                | (refine RS.st fun A B hA hB => ?_; simp [k0, k5, k6, k4, abuiltin, alen, alenOk, ti9, isStrD, aidx, AV.isStr, hj, hji, hji2, n58, w1, tp, hp1, hp2, hp3, hc, hcl, pNum, hnum, aextract, aunop, G7, abound, asliceOk, aslice, hnv, hnv2, w3, w4, onW_t, onW_f, onV_s]; first | (refine hA _ _ _ ?_ ?_; (focus (first | (simp [k0, k5, k6, k4, abuiltin, alen, alenOk, ti9, isStrD, aidx, AV.isStr, hj, hji, hji2, n58, w1, tp, hp1, hp2, hp3, hc, hcl, pNum, hnum, aextract, aunop, G7, abound, asliceOk, aslice, hnv, hnv2, w3, w4]; done) | (simp [k0, k5, k6, k4, abuiltin, alen, alenOk, ti9, isStrD, aidx, AV.isStr, hj, hji, hji2, n58, w1, tp, hp1, hp2, hp3, hc, hcl, pNum, hnum, aextract, aunop, G7, abound, asliceOk, aslice, hnv, hnv2, w3, w4]; omega))); clear hA hB A B) | (refine hB ?_; clear hA hB A B))
                | (refine RQ.nl ?_; refine hk _ _ ?_; clear hk k)
                | (refine RW.nl ?_; refine hk _ _ ?_; clear hk k)
                | (refine RW.st fun A B hA hB => ?_; simp [k0, k5, k6, k4, abuiltin, alen, alenOk, ti9, isStrD, aidx, AV.isStr, hj, hji, hji2, n58, w1, tp, hp1, hp2, hp3, hc, hcl, pNum, hnum, aextract, aunop, G7, abound, asliceOk, aslice, hnv, hnv2, w3, w4, onW_t, onW_f, onV_s]; first | (refine hA _ _ _ ?_ (by first | exact .inl (by decide) | exact .inr (.inl rfl) | exact .inr (.inr rfl)) (by first | exact .inl (by decide) | exact .inr (.inl (by decide)) | exact .inr (.inr fun s2 => by simp [k0, k5, k6, k4, abuiltin, alen, alenOk, ti9, isStrD, aidx, AV.isStr, hj, hji, hji2, n58, w1, tp, hp1, hp2, hp3, hc, hcl, pNum, hnum, aextract, aunop, G7, abound, asliceOk, aslice, hnv, hnv2, w3, w4])) ?_; (focus (first | (simp [k0, k5, k6, k4, abuiltin, alen, alenOk, ti9, isStrD, aidx, AV.isStr, hj, hji, hji2, n58, w1, tp, hp1, hp2, hp3, hc, hcl, pNum, hnum, aextract, aunop, G7, abound, asliceOk, aslice, hnv, hnv2, w3, w4]; done) | (simp [k0, k5, k6, k4, abuiltin, alen, alenOk, ti9, isStrD, aidx, AV.isStr, hj, hji, hji2, n58, w1, tp, hp1, hp2, hp3, hc, hcl, pNum, hnum, aextract, aunop, G7, abound, asliceOk, aslice, hnv, hnv2, w3, w4]; omega))); clear hA hB A B) | (refine hB ?_; clear hA hB A B))
                | (refine RQ.st fun A B hA hB => ?_; simp [k0, k5, k6, k4, abuiltin, alen, alenOk, ti9, isStrD, aidx, AV.isStr, hj, hji, hji2, n58, w1, tp, hp1, hp2, hp3, hc, hcl, pNum, hnum, aextract, aunop, G7, abound, asliceOk, aslice, hnv, hnv2, w3, w4, onW_t, onW_f, onV_s]; first | (refine hA _ _ _ ?_ (by first | exact .inl rfl | exact .inr (by decide)) ?_; (focus (first | (simp [k0, k5, k6, k4, abuiltin, alen, alenOk, ti9, isStrD, aidx, AV.isStr, hj, hji, hji2, n58, w1, tp, hp1, hp2, hp3, hc, hcl, pNum, hnum, aextract, aunop, G7, abound, asliceOk, aslice, hnv, hnv2, w3, w4]; done) | (simp [k0, k5, k6, k4, abuiltin, alen, alenOk, ti9, isStrD, aidx, AV.isStr, hj, hji, hji2, n58, w1, tp, hp1, hp2, hp3, hc, hcl, pNum, hnum, aextract, aunop, G7, abound, asliceOk, aslice, hnv, hnv2, w3, w4]; omega))); clear hA hB A B) | (refine hB ?_; clear hA hB A B))
                | refine WP.sr fun k hk => ?_ | refine WP.r fun k hk => ?_ | refine WP.sd _ rfl fun k hk => ?_ | refine WP.d _ rfl fun k hk => ?_
                | (refine WP.cc fun A B hA hB => ?_; simp [k0, k5, k6, k4, abuiltin, alen, alenOk, ti9, isStrD, aidx, AV.isStr, hj, hji, hji2, n58, w1, tp, hp1, hp2, hp3, hc, hcl, pNum, hnum, aextract, aunop, G7, abound, asliceOk, aslice, hnv, hnv2, w3, w4, onB_t, onB_f]; first | (refine hA ?_; clear hA hB A B) | (refine hB ?_; clear hA hB A B) | (refine onB_if (fun h => hA ?_) (fun h => hB ?_) <;> clear hA hB A B))
                | refine WP.q ?_ | refine WP.b ?_)
              exact ⟨.inr rfl, .tup [.nsl, .int .i64 2], by simp, frz_bad2⟩
            · rw [if_neg (by rw [List.length_drop]; simp; omega)] at hpart
              have hnv3 : 0 ≤ nv := by omega
              have w5 : IntKind.i64.wrap ((j : Int) + 1) = (j : Int) + 1 := wrap64 (by omega) (by omega)
              have w6 : IntKind.i64.wrap ((j : Int) + 1 + nv) = (j : Int) + 1 + nv := wrap64 (by omega) (by omega)
              have t1 : ((j : Int) + 1).toNat = j + 1 := by omega
              have t2 : ((j : Int) + 1 + nv).toNat = j + 1 + nv.toNat := by omega
              have t3 : j + 1 + nv.toNat - (j + 1) = nv.toNat := by omega
              have q1 : 0 ≤ (j : Int) + 1 := by omega
              have q2 : (j : Int) + 1 ≤ (j : Int) + 1 + nv := by omega
              have q3 : (j : Int) + 1 + nv ≤ (x.length : Int) := by omega
              have htl : ((x.drop (j + 1)).take nv.toNat).length ≤ 100000000 := by rw [List.length_take, List.length_drop]; omega
              generalize htx : (x.drop (j + 1)).take nv.toNat = tx at *
              have hpx : ∀ h : p < x.length, x[p] = x[p] := fun _ => rfl
              cases hnum2 : numS tx with
              | mk m fine =>
              rw [hnum2] at hpart
              simp only at hpart
              have byteq : ∀ (c : UInt8) (k : Nat), k < 256 → ((c.toNat : Int) == (k : Int)) = (c == UInt8.ofNat k) := fun c k hk => by
                by_cases h : c = UInt8.ofNat k
                · subst h; simp; omega
                · have h1 : (c == UInt8.ofNat k) = false := by simpa using h
                  rw [h1, beq_eq_false_iff_ne]
                  intro e
                  exact h (by rw [← UInt8.toNat_inj]; simp; omega)
              by_cases ht : x[p] = 115
              · rw [if_pos ht] at hpart
                have b1 : ((x[p].toNat : Int) != 115) = false := by rw [ht]; rfl
                have b2 : ((x[p].toNat : Int) == 115) = true := by rw [ht]; rfl
                have hback2 : backR x = (backR (x.drop (j + 1 + nv.toNat))).map ((acc ++ [⟨true, tx, 0⟩]) ++ ·) := by
                  rw [hback, backR_step hdne hpart, Option.map_map, List.drop_drop]
                  congr 1
                  funext l
                  simp
                rcases hB with ⟨h0, g4⟩ | ⟨h0, rd, hrd, hrd2, g4, hr⟩
                · subst h0
                  subst g4
                  repeat' (first
                    | refine WP.t ?_ | refine WP.k ?_ | refine WP.e ?_ | refine Qn ?_ | refine Qr ?_ | refine Qe ?_ | refine Bn ?_ | refine Br ?_ | refine Be ?_ | refine Bx (by decide) ?_
                    | (refine RS.nl ?_; refine hk _ _ ?_; clear hk k)
                    | (refine RS.st fun A B hA hB => ?_; simp [k0, k5, k6, k4, abuiltin, alen, alenOk, ti9, isStrD, aidx, AV.isStr, hj, hji, hji2, n58, w1, tp, hp1, hp2, hp3, hc, hcl, pNum, hnum, aextract, aunop, G7, abound, asliceOk, aslice, hnv, hnv2, hnv3, w3, w4, w5, w6, t1, t2, t3, q1, q2, q3, htx, htl, hnum2, hpx, hpi, hp, b1, b2, ti34, ti4, ti9, ti2, ti22, abuild, afill, placesOf, abuildSlice, chunks, elemOfT, elemId, ard, aappend, isSS, onW_t, onW_f, onV_s]; first | (refine hA _ _ _ ?_ ?_; (focus (first | (simp [k0, k5, k6, k4, abuiltin, alen, alenOk, ti9, isStrD, aidx, AV.isStr, hj, hji, hji2, n58, w1, tp, hp1, hp2, hp3, hc, hcl, pNum, hnum, aextract, aunop, G7, abound, asliceOk, aslice, hnv, hnv2, hnv3, w3, w4, w5, w6, t1, t2, t3, q1, q2, q3, htx, htl, hnum2, hpx, hpi, hp, b1, b2, ti34, ti4, ti9, ti2, ti22, abuild, afill, placesOf, abuildSlice, chunks, elemOfT, elemId, ard, aappend, isSS]; done) | (simp [k0, k5, k6, k4, abuiltin, alen, alenOk, ti9, isStrD, aidx, AV.isStr, hj, hji, hji2, n58, w1, tp, hp1, hp2, hp3, hc, hcl, pNum, hnum, aextract, aunop, G7, abound, asliceOk, aslice, hnv, hnv2, hnv3, w3, w4, w5, w6, t1, t2, t3, q1, q2, q3, htx, htl, hnum2, hpx, hpi, hp, b1, b2, ti34, ti4, ti9, ti2, ti22, abuild, afill, placesOf, abuildSlice, chunks, elemOfT, elemId, ard, aappend, isSS]; omega))); clear hA hB A B) | (refine hB ?_; clear hA hB A B))
                    | (refine RQ.nl ?_; refine hk _ _ ?_; clear hk k)
                    | (refine RW.nl ?_; refine hk _ _ ?_; clear hk k)
                    | (refine RW.st fun A B hA hB => ?_; simp [k0, k5, k6, k4, abuiltin, alen, alenOk, ti9, isStrD, aidx, AV.isStr, hj, hji, hji2, n58, w1, tp, hp1, hp2, hp3, hc, hcl, pNum, hnum, aextract, aunop, G7, abound, asliceOk, aslice, hnv, hnv2, hnv3, w3, w4, w5, w6, t1, t2, t3, q1, q2, q3, htx, htl, hnum2, hpx, hpi, hp, b1, b2, ti34, ti4, ti9, ti2, ti22, abuild, afill, placesOf, abuildSlice, chunks, elemOfT, elemId, ard, aappend, isSS, onW_t, onW_f, onV_s]; first | (refine hA _ _ _ ?_ (by first | exact .inl (by decide) | exact .inr (.inl rfl) | exact .inr (.inr rfl)) (by first | exact .inl (by decide) | exact .inr (.inl (by decide)) | exact .inr (.inr fun s2 => by simp [k0, k5, k6, k4, abuiltin, alen, alenOk, ti9, isStrD, aidx, AV.isStr, hj, hji, hji2, n58, w1, tp, hp1, hp2, hp3, hc, hcl, pNum, hnum, aextract, aunop, G7, abound, asliceOk, aslice, hnv, hnv2, hnv3, w3, w4, w5, w6, t1, t2, t3, q1, q2, q3, htx, htl, hnum2, hpx, hpi, hp, b1, b2, ti34, ti4, ti9, ti2, ti22, abuild, afill, placesOf, abuildSlice, chunks, elemOfT, elemId, ard, aappend, isSS])) ?_; (focus (first | (simp [k0, k5, k6, k4, abuiltin, alen, alenOk, ti9, isStrD, aidx, AV.isStr, hj, hji, hji2, n58, w1, tp, hp1, hp2, hp3, hc, hcl, pNum, hnum, aextract, aunop, G7, abound, asliceOk, aslice, hnv, hnv2, hnv3, w3, w4, w5, w6, t1, t2, t3, q1, q2, q3, htx, htl, hnum2, hpx, hpi, hp, b1, b2, ti34, ti4, ti9, ti2, ti22, abuild, afill, placesOf, abuildSlice, chunks, elemOfT, elemId, ard, aappend, isSS]; done) | (simp [k0, k5, k6, k4, abuiltin, alen, alenOk, ti9, isStrD, aidx, AV.isStr, hj, hji, hji2, n58, w1, tp, hp1, hp2, hp3, hc, hcl, pNum, hnum, aextract, aunop, G7, abound, asliceOk, aslice, hnv, hnv2, hnv3, w3, w4, w5, w6, t1, t2, t3, q1, q2, q3, htx, htl, hnum2, hpx, hpi, hp, b1, b2, ti34, ti4, ti9, ti2, ti22, abuild, afill, placesOf, abuildSlice, chunks, elemOfT, elemId, ard, aappend, isSS]; omega))); clear hA hB A B) | (refine hB ?_; clear hA hB A B))
                    | (refine RQ.st fun A B hA hB => ?_; simp [k0, k5, k6, k4, abuiltin, alen, alenOk, ti9, isStrD, aidx, AV.isStr, hj, hji, hji2, n58, w1, tp, hp1, hp2, hp3, hc, hcl, pNum, hnum, aextract, aunop, G7, abound, asliceOk, aslice, hnv, hnv2, hnv3, w3, w4, w5, w6, t1, t2, t3, q1, q2, q3, htx, htl, hnum2, hpx, hpi, hp, b1, b2, ti34, ti4, ti9, ti2, ti22, abuild, afill, placesOf, abuildSlice, chunks, elemOfT, elemId, ard, aappend, isSS, onW_t, onW_f, onV_s]; first | (refine hA _ _ _ ?_ (by first | exact .inl rfl | exact .inr (by decide)) ?_; (focus (first | (simp [k0, k5, k6, k4, abuiltin, alen, alenOk, ti9, isStrD, aidx, AV.isStr, hj, hji, hji2, n58, w1, tp, hp1, hp2, hp3, hc, hcl, pNum, hnum, aextract, aunop, G7, abound, asliceOk, aslice, hnv, hnv2, hnv3, w3, w4, w5, w6, t1, t2, t3, q1, q2, q3, htx, htl, hnum2, hpx, hpi, hp, b1, b2, ti34, ti4, ti9, ti2, ti22, abuild, afill, placesOf, abuildSlice, chunks, elemOfT, elemId, ard, aappend, isSS]; done) | (simp [k0, k5, k6, k4, abuiltin, alen, alenOk, ti9, isStrD, aidx, AV.isStr, hj, hji, hji2, n58, w1, tp, hp1, hp2, hp3, hc, hcl, pNum, hnum, aextract, aunop, G7, abound, asliceOk, aslice, hnv, hnv2, hnv3, w3, w4, w5, w6, t1, t2, t3, q1, q2, q3, htx, htl, hnum2, hpx, hpi, hp, b1, b2, ti34, ti4, ti9, ti2, ti22, abuild, afill, placesOf, abuildSlice, chunks, elemOfT, elemId, ard, aappend, isSS]; omega))); clear hA hB A B) | (refine hB ?_; clear hA hB A B))
                    | refine WP.sr fun k hk => ?_ | refine WP.r fun k hk => ?_ | refine WP.sd _ rfl fun k hk => ?_ | refine WP.d _ rfl fun k hk => ?_
                    | (refine WP.cc fun A B hA hB => ?_; simp [k0, k5, k6, k4, abuiltin, alen, alenOk, ti9, isStrD, aidx, AV.isStr, hj, hji, hji2, n58, w1, tp, hp1, hp2, hp3, hc, hcl, pNum, hnum, aextract, aunop, G7, abound, asliceOk, aslice, hnv, hnv2, hnv3, w3, w4, w5, w6, t1, t2, t3, q1, q2, q3, htx, htl, hnum2, hpx, hpi, hp, b1, b2, ti34, ti4, ti9, ti2, ti22, abuild, afill, placesOf, abuildSlice, chunks, elemOfT, elemId, ard, aappend, isSS, onB_t, onB_f]; first | (refine hA ?_; clear hA hB A B) | (refine hB ?_; clear hA hB A B) | (refine onB_if (fun h => hA ?_) (fun h => hB ?_) <;> clear hA hB A B))
                    | refine WP.q ?_ | refine WP.b ?_)
                  refine ⟨x.length - (j + 1 + nv.toNat), by omega, j + 1 + nv.toNat, [⟨true, tx, 0⟩], by omega, by simp [k0], by simp; omega, by simp; omega, by simp; omega, by simpa using hback2, .inr ⟨by simp, s2.nx + 1, by omega, by simp, by simp, ?_⟩⟩
                  simp [V.cs]
                · subst g4
                  have n1 : ¬ rd = s2.nx := by omega
                  have n2 : ¬ rd = s2.nx + 1 := by omega
                  have hby : (acc.length + 1) * 32 ≤ 140737488355328 := by omega
                  repeat' (first
                    | refine WP.t ?_ | refine WP.k ?_ | refine WP.e ?_ | refine Qn ?_ | refine Qr ?_ | refine Qe ?_ | refine Bn ?_ | refine Br ?_ | refine Be ?_ | refine Bx (by decide) ?_
                    | (refine RS.nl ?_; refine hk _ _ ?_; clear hk k)
                    | (refine RS.st fun A B hA hB => ?_; simp [k0, k5, k6, k4, abuiltin, alen, alenOk, ti9, isStrD, aidx, AV.isStr, hj, hji, hji2, n58, w1, tp, hp1, hp2, hp3, hc, hcl, pNum, hnum, aextract, aunop, G7, abound, asliceOk, aslice, hnv, hnv2, hnv3, w3, w4, w5, w6, t1, t2, t3, q1, q2, q3, htx, htl, hnum2, hpx, hpi, hp, b1, b2, ti34, ti4, ti9, ti2, ti22, abuild, afill, placesOf, abuildSlice, chunks, elemOfT, elemId, ard, aappend, isSS, hr, n1, n2, hby, hrd, hrd2, onW_t, onW_f, onV_s]; first | (refine hA _ _ _ ?_ ?_; (focus (first | (simp [k0, k5, k6, k4, abuiltin, alen, alenOk, ti9, isStrD, aidx, AV.isStr, hj, hji, hji2, n58, w1, tp, hp1, hp2, hp3, hc, hcl, pNum, hnum, aextract, aunop, G7, abound, asliceOk, aslice, hnv, hnv2, hnv3, w3, w4, w5, w6, t1, t2, t3, q1, q2, q3, htx, htl, hnum2, hpx, hpi, hp, b1, b2, ti34, ti4, ti9, ti2, ti22, abuild, afill, placesOf, abuildSlice, chunks, elemOfT, elemId, ard, aappend, isSS, hr, n1, n2, hby, hrd, hrd2]; done) | (simp [k0, k5, k6, k4, abuiltin, alen, alenOk, ti9, isStrD, aidx, AV.isStr, hj, hji, hji2, n58, w1, tp, hp1, hp2, hp3, hc, hcl, pNum, hnum, aextract, aunop, G7, abound, asliceOk, aslice, hnv, hnv2, hnv3, w3, w4, w5, w6, t1, t2, t3, q1, q2, q3, htx, htl, hnum2, hpx, hpi, hp, b1, b2, ti34, ti4, ti9, ti2, ti22, abuild, afill, placesOf, abuildSlice, chunks, elemOfT, elemId, ard, aappend, isSS, hr, n1, n2, hby, hrd, hrd2]; omega))); clear hA hB A B) | (refine hB ?_; clear hA hB A B))
                    | (refine RQ.nl ?_; refine hk _ _ ?_; clear hk k)
                    | (refine RW.nl ?_; refine hk _ _ ?_; clear hk k)
                    | (refine RW.st fun A B hA hB => ?_; simp [k0, k5, k6, k4, abuiltin, alen, alenOk, ti9, isStrD, aidx, AV.isStr, hj, hji, hji2, n58, w1, tp, hp1, hp2, hp3, hc, hcl, pNum, hnum, aextract, aunop, G7, abound, asliceOk, aslice, hnv, hnv2, hnv3, w3, w4, w5, w6, t1, t2, t3, q1, q2, q3, htx, htl, hnum2, hpx, hpi, hp, b1, b2, ti34, ti4, ti9, ti2, ti22, abuild, afill, placesOf, abuildSlice, chunks, elemOfT, elemId, ard, aappend, isSS, hr, n1, n2, hby, hrd, hrd2, onW_t, onW_f, onV_s]; first | (refine hA _ _ _ ?_ (by first | exact .inl (by decide) | exact .inr (.inl rfl) | exact .inr (.inr rfl)) (by first | exact .inl (by decide) | exact .inr (.inl (by decide)) | exact .inr (.inr fun s2 => by simp [k0, k5, k6, k4, abuiltin, alen, alenOk, ti9, isStrD, aidx, AV.isStr, hj, hji, hji2, n58, w1, tp, hp1, hp2, hp3, hc, hcl, pNum, hnum, aextract, aunop, G7, abound, asliceOk, aslice, hnv, hnv2, hnv3, w3, w4, w5, w6, t1, t2, t3, q1, q2, q3, htx, htl, hnum2, hpx, hpi, hp, b1, b2, ti34, ti4, ti9, ti2, ti22, abuild, afill, placesOf, abuildSlice, chunks, elemOfT, elemId, ard, aappend, isSS, hr, n1, n2, hby, hrd, hrd2])) ?_; (focus (first | (simp [k0, k5, k6, k4, abuiltin, alen, alenOk, ti9, isStrD, aidx, AV.isStr, hj, hji, hji2, n58, w1, tp, hp1, hp2, hp3, hc, hcl, pNum, hnum, aextract, aunop, G7, abound, asliceOk, aslice, hnv, hnv2, hnv3, w3, w4, w5, w6, t1, t2, t3, q1, q2, q3, htx, htl, hnum2, hpx, hpi, hp, b1, b2, ti34, ti4, ti9, ti2, ti22, abuild, afill, placesOf, abuildSlice, chunks, elemOfT, elemId, ard, aappend, isSS, hr, n1, n2, hby, hrd, hrd2]; done) | (simp [k0, k5, k6, k4, abuiltin, alen, alenOk, ti9, isStrD, aidx, AV.isStr, hj, hji, hji2, n58, w1, tp, hp1, hp2, hp3, hc, hcl, pNum, hnum, aextract, aunop, G7, abound, asliceOk, aslice, hnv, hnv2, hnv3, w3, w4, w5, w6, t1, t2, t3, q1, q2, q3, htx, htl, hnum2, hpx, hpi, hp, b1, b2, ti34, ti4, ti9, ti2, ti22, abuild, afill, placesOf, abuildSlice, chunks, elemOfT, elemId, ard, aappend, isSS, hr, n1, n2, hby, hrd, hrd2]; omega))); clear hA hB A B) | (refine hB ?_; clear hA hB A B))
                    | (refine RQ.st fun A B hA hB => ?_; simp [k0, k5, k6, k4, abuiltin, alen, alenOk, ti9, isStrD, aidx, AV.isStr, hj, hji, hji2, n58, w1, tp, hp1, hp2, hp3, hc, hcl, pNum, hnum, aextract, aunop, G7, abound, asliceOk, aslice, hnv, hnv2, hnv3, w3, w4, w5, w6, t1, t2, t3, q1, q2, q3, htx, htl, hnum2, hpx, hpi, hp, b1, b2, ti34, ti4, ti9, ti2, ti22, abuild, afill, placesOf, abuildSlice, chunks, elemOfT, elemId, ard, aappend, isSS, hr, n1, n2, hby, hrd, hrd2, onW_t, onW_f, onV_s]; first | (refine hA _ _ _ ?_ (by first | exact .inl rfl | exact .inr (by decide)) ?_; (focus (first | (simp [k0, k5, k6, k4, abuiltin, alen, alenOk, ti9, isStrD, aidx, AV.isStr, hj, hji, hji2, n58, w1, tp, hp1, hp2, hp3, hc, hcl, pNum, hnum, aextract, aunop, G7, abound, asliceOk, aslice, hnv, hnv2, hnv3, w3, w4, w5, w6, t1, t2, t3, q1, q2, q3, htx, htl, hnum2, hpx, hpi, hp, b1, b2, ti34, ti4, ti9, ti2, ti22, abuild, afill, placesOf, abuildSlice, chunks, elemOfT, elemId, ard, aappend, isSS, hr, n1, n2, hby, hrd, hrd2]; done) | (simp [k0, k5, k6, k4, abuiltin, alen, alenOk, ti9, isStrD, aidx, AV.isStr, hj, hji, hji2, n58, w1, tp, hp1, hp2, hp3, hc, hcl, pNum, hnum, aextract, aunop, G7, abound, asliceOk, aslice, hnv, hnv2, hnv3, w3, w4, w5, w6, t1, t2, t3, q1, q2, q3, htx, htl, hnum2, hpx, hpi, hp, b1, b2, ti34, ti4, ti9, ti2, ti22, abuild, afill, placesOf, abuildSlice, chunks, elemOfT, elemId, ard, aappend, isSS, hr, n1, n2, hby, hrd, hrd2]; omega))); clear hA hB A B) | (refine hB ?_; clear hA hB A B))
                    | refine WP.sr fun k hk => ?_ | refine WP.r fun k hk => ?_ | refine WP.sd _ rfl fun k hk => ?_ | refine WP.d _ rfl fun k hk => ?_
                    | (refine WP.cc fun A B hA hB => ?_; simp [k0, k5, k6, k4, abuiltin, alen, alenOk, ti9, isStrD, aidx, AV.isStr, hj, hji, hji2, n58, w1, tp, hp1, hp2, hp3, hc, hcl, pNum, hnum, aextract, aunop, G7, abound, asliceOk, aslice, hnv, hnv2, hnv3, w3, w4, w5, w6, t1, t2, t3, q1, q2, q3, htx, htl, hnum2, hpx, hpi, hp, b1, b2, ti34, ti4, ti9, ti2, ti22, abuild, afill, placesOf, abuildSlice, chunks, elemOfT, elemId, ard, aappend, isSS, hr, n1, n2, hby, hrd, hrd2, onB_t, onB_f]; first | (refine hA ?_; clear hA hB A B) | (refine hB ?_; clear hA hB A B) | (refine onB_if (fun h => hA ?_) (fun h => hB ?_) <;> clear hA hB A B))
                    | refine WP.q ?_ | refine WP.b ?_)
                  refine ⟨x.length - (j + 1 + nv.toNat), by omega, j + 1 + nv.toNat, acc ++ [⟨true, tx, 0⟩], by omega, by simp [k0], by simp; omega, by simp; omega, by simp; omega, hback2, .inr ⟨by simp, s2.nx + 1, by omega, by simp, by simp, ?_⟩⟩
                  have e2 : ∀ s3 : St, s3.nx = s2.nx + 1 → ∀ o, (s3.push o).get (s2.nx + 1) = some o := fun s3 h o => by rw [← h]; exact St.get_push_same _ _
                  rw [e2 _ (by simp)]
                  simp [V.cs]
              · rw [if_neg ht] at hpart
                have b2 : ((x[p].toNat : Int) == 115) = false := by
                  have := byteq x[p] 115 (by omega)
                  rw [show ((115 : Nat) : Int) = 115 from rfl] at this
                  rw [this]; simpa using ht
                have b1 : ((x[p].toNat : Int) != 115) = true := by simp only [bne, b2]; rfl
                by_cases hu : x[p] = 110
                · have b3 : ((x[p].toNat : Int) != 110) = false := by rw [hu]; rfl
                  cases fine with
                  | false =>
                    rw [if_neg (by simp)] at hpart
                    rw [hbad hpart]
                    repeat' (first
                      | refine WP.t ?_ | refine WP.k ?_ | refine WP.e ?_ | refine Qn ?_ | refine Qr ?_ | refine Qe ?_ | refine Bn ?_ | refine Br ?_ | refine Be ?_ | refine Bx (by decide) ?_
                      | (refine RS.nl ?_; refine hk _ _ ?_; clear hk k)
                      | (refine RS.st fun A B hA hB => ?_; simp [k0, k5, k6, k4, abuiltin, alen, alenOk, ti9, isStrD, aidx, AV.isStr, hj, hji, hji2, n58, w1, tp, hp1, hp2, hp3, hc, hcl, pNum, hnum, aextract, aunop, G7, abound, asliceOk, aslice, hnv, hnv2, hnv3, w3, w4, w5, w6, t1, t2, t3, q1, q2, q3, htx, htl, hnum2, hpx, hpi, hp, b1, b2, b3, onW_t, onW_f, onV_s]; first | (refine hA _ _ _ ?_ ?_; (focus (first | (simp [k0, k5, k6, k4, abuiltin, alen, alenOk, ti9, isStrD, aidx, AV.isStr, hj, hji, hji2, n58, w1, tp, hp1, hp2, hp3, hc, hcl, pNum, hnum, aextract, aunop, G7, abound, asliceOk, aslice, hnv, hnv2, hnv3, w3, w4, w5, w6, t1, t2, t3, q1, q2, q3, htx, htl, hnum2, hpx, hpi, hp, b1, b2, b3]; done) | (simp [k0, k5, k6, k4, abuiltin, alen, alenOk, ti9, isStrD, aidx, AV.isStr, hj, hji, hji2, n58, w1, tp, hp1, hp2, hp3, hc, hcl, pNum, hnum, aextract, aunop, G7, abound, asliceOk, aslice, hnv, hnv2, hnv3, w3, w4, w5, w6, t1, t2, t3, q1, q2, q3, htx, htl, hnum2, hpx, hpi, hp, b1, b2, b3]; omega))); clear hA hB A B) | (refine hB ?_; clear hA hB A B))
                      | (refine RQ.nl ?_; refine hk _ _ ?_; clear hk k)
                      | (refine RW.nl ?_; refine hk _ _ ?_; clear hk k)
                      | (refine RW.st fun A B hA hB => ?_; simp [k0, k5, k6, k4, abuiltin, alen, alenOk, ti9, isStrD, aidx, AV.isStr, hj, hji, hji2, n58, w1, tp, hp1, hp2, hp3, hc, hcl, pNum, hnum, aextract, aunop, G7, abound, asliceOk, aslice, hnv, hnv2, hnv3, w3, w4, w5, w6, t1, t2, t3, q1, q2, q3, htx, htl, hnum2, hpx, hpi, hp, b1, b2, b3, onW_t, onW_f, onV_s]; first | (refine hA _ _ _ ?_ (by first | exact .inl (by decide) | exact .inr (.inl rfl) | exact .inr (.inr rfl)) (by first | exact .inl (by decide) | exact .inr (.inl (by decide)) | exact .inr (.inr fun s2 => by simp [k0, k5, k6, k4, abuiltin, alen, alenOk, ti9, isStrD, aidx, AV.isStr, hj, hji, hji2, n58, w1, tp, hp1, hp2, hp3, hc, hcl, pNum, hnum, aextract, aunop, G7, abound, asliceOk, aslice, hnv, hnv2, hnv3, w3, w4, w5, w6, t1, t2, t3, q1, q2, q3, htx, htl, hnum2, hpx, hpi, hp, b1, b2, b3])) ?_; (focus (first | (simp [k0, k5, k6, k4, abuiltin, alen, alenOk, ti9, isStrD, aidx, AV.isStr, hj, hji, hji2, n58, w1, tp, hp1, hp2, hp3, hc, hcl, pNum, hnum, aextract, aunop, G7, abound, asliceOk, aslice, hnv, hnv2, hnv3, w3, w4, w5, w6, t1, t2, t3, q1, q2, q3, htx, htl, hnum2, hpx, hpi, hp, b1, b2, b3]; done) | (simp [k0, k5, k6, k4, abuiltin, alen, alenOk, ti9, isStrD, aidx, AV.isStr, hj, hji, hji2, n58, w1, tp, hp1, hp2, hp3, hc, hcl, pNum, hnum, aextract, aunop, G7, abound, asliceOk, aslice, hnv, hnv2, hnv3, w3, w4, w5, w6, t1, t2, t3, q1, q2, q3, htx, htl, hnum2, hpx, hpi, hp, b1, b2, b3]; omega))); clear hA hB A B) | (refine hB ?_; clear hA hB A B))
                      | (refine RQ.st fun A B hA hB => ?_; simp [k0, k5, k6, k4, abuiltin, alen, alenOk, ti9, isStrD, aidx, AV.isStr, hj, hji, hji2, n58, w1, tp, hp1, hp2, hp3, hc, hcl, pNum, hnum, aextract, aunop, G7, abound, asliceOk, aslice, hnv, hnv2, hnv3, w3, w4, w5, w6, t1, t2, t3, q1, q2, q3, htx, htl, hnum2, hpx, hpi, hp, b1, b2, b3, onW_t, onW_f, onV_s]; first | (refine hA _ _ _ ?_ (by first | exact .inl rfl | exact .inr (by decide)) ?_; (focus (first | (simp [k0, k5, k6, k4, abuiltin, alen, alenOk, ti9, isStrD, aidx, AV.isStr, hj, hji, hji2, n58, w1, tp, hp1, hp2, hp3, hc, hcl, pNum, hnum, aextract, aunop, G7, abound, asliceOk, aslice, hnv, hnv2, hnv3, w3, w4, w5, w6, t1, t2, t3, q1, q2, q3, htx, htl, hnum2, hpx, hpi, hp, b1, b2, b3]; done) | (simp [k0, k5, k6, k4, abuiltin, alen, alenOk, ti9, isStrD, aidx, AV.isStr, hj, hji, hji2, n58, w1, tp, hp1, hp2, hp3, hc, hcl, pNum, hnum, aextract, aunop, G7, abound, asliceOk, aslice, hnv, hnv2, hnv3, w3, w4, w5, w6, t1, t2, t3, q1, q2, q3, htx, htl, hnum2, hpx, hpi, hp, b1, b2, b3]; omega))); clear hA hB A B) | (refine hB ?_; clear hA hB A B))
                      | refine WP.sr fun k hk => ?_ | refine WP.r fun k hk => ?_ | refine WP.sd _ rfl fun k hk => ?_ | refine WP.d _ rfl fun k hk => ?_
                      | (refine WP.cc fun A B hA hB => ?_; simp [k0, k5, k6, k4, abuiltin, alen, alenOk, ti9, isStrD, aidx, AV.isStr, hj, hji, hji2, n58, w1, tp, hp1, hp2, hp3, hc, hcl, pNum, hnum, aextract, aunop, G7, abound, asliceOk, aslice, hnv, hnv2, hnv3, w3, w4, w5, w6, t1, t2, t3, q1, q2, q3, htx, htl, hnum2, hpx, hpi, hp, b1, b2, b3, onB_t, onB_f]; first | (refine hA ?_; clear hA hB A B) | (refine hB ?_; clear hA hB A B) | (refine onB_if (fun h => hA ?_) (fun h => hB ?_) <;> clear hA hB A B))
                      | refine WP.q ?_ | refine WP.b ?_)
                    exact ⟨.inr rfl, .tup [.nsl, .int .i64 2], by simp, frz_bad2⟩
                  | true =>
                    rw [if_pos ⟨hu, rfl⟩] at hpart
                    have hback2 : backR x = (backR (x.drop (j + 1 + nv.toNat))).map ((acc ++ [⟨false, [], m⟩]) ++ ·) := by
                      rw [hback, backR_step hdne hpart, Option.map_map, List.drop_drop]
                      congr 1
                      funext l
                      simp
                    rcases hB with ⟨h0, g4⟩ | ⟨h0, rd, hrd, hrd2, g4, hr⟩
                    · subst h0
                      subst g4
                      repeat' (first
                        | refine WP.t ?_ | refine WP.k ?_ | refine WP.e ?_ | refine Qn ?_ | refine Qr ?_ | refine Qe ?_ | refine Bn ?_ | refine Br ?_ | refine Be ?_ | refine Bx (by decide) ?_
                        | (refine RS.nl ?_; refine hk _ _ ?_; clear hk k)
                        | (refine RS.st fun A B hA hB => ?_; simp [k0, k5, k6, k4, abuiltin, alen, alenOk, ti9, isStrD, aidx, AV.isStr, hj, hji, hji2, n58, w1, tp, hp1, hp2, hp3, hc, hcl, pNum, hnum, aextract, aunop, G7, abound, asliceOk, aslice, hnv, hnv2, hnv3, w3, w4, w5, w6, t1, t2, t3, q1, q2, q3, htx, htl, hnum2, hpx, hpi, hp, b1, b2, b3, ti34, ti4, ti9, ti2, ti22, abuild, afill, placesOf, abuildSlice, chunks, elemOfT, elemId, ard, aappend, isSS, onW_t, onW_f, onV_s]; first | (refine hA _ _ _ ?_ ?_; (focus (first | (simp [k0, k5, k6, k4, abuiltin, alen, alenOk, ti9, isStrD, aidx, AV.isStr, hj, hji, hji2, n58, w1, tp, hp1, hp2, hp3, hc, hcl, pNum, hnum, aextract, aunop, G7, abound, asliceOk, aslice, hnv, hnv2, hnv3, w3, w4, w5, w6, t1, t2, t3, q1, q2, q3, htx, htl, hnum2, hpx, hpi, hp, b1, b2, b3, ti34, ti4, ti9, ti2, ti22, abuild, afill, placesOf, abuildSlice, chunks, elemOfT, elemId, ard, aappend, isSS]; done) | (simp [k0, k5, k6, k4, abuiltin, alen, alenOk, ti9, isStrD, aidx, AV.isStr, hj, hji, hji2, n58, w1, tp, hp1, hp2, hp3, hc, hcl, pNum, hnum, aextract, aunop, G7, abound, asliceOk, aslice, hnv, hnv2, hnv3, w3, w4, w5, w6, t1, t2, t3, q1, q2, q3, htx, htl, hnum2, hpx, hpi, hp, b1, b2, b3, ti34, ti4, ti9, ti2, ti22, abuild, afill, placesOf, abuildSlice, chunks, elemOfT, elemId, ard, aappend, isSS]; omega))); clear hA hB A B) | (refine hB ?_; clear hA hB A B))
                        | (refine RQ.nl ?_; refine hk _ _ ?_; clear hk k)
                        | (refine RW.nl ?_; refine hk _ _ ?_; clear hk k)
                        | (refine RW.st fun A B hA hB => ?_; simp [k0, k5, k6, k4, abuiltin, alen, alenOk, ti9, isStrD, aidx, AV.isStr, hj, hji, hji2, n58, w1, tp, hp1, hp2, hp3, hc, hcl, pNum, hnum, aextract, aunop, G7, abound, asliceOk, aslice, hnv, hnv2, hnv3, w3, w4, w5, w6, t1, t2, t3, q1, q2, q3, htx, htl, hnum2, hpx, hpi, hp, b1, b2, b3, ti34, ti4, ti9, ti2, ti22, abuild, afill, placesOf, abuildSlice, chunks, elemOfT, elemId, ard, aappend, isSS, onW_t, onW_f, onV_s]; first | (refine hA _ _ _ ?_ (by first | exact .inl (by decide) | exact .inr (.inl rfl) | exact .inr (.inr rfl)) (by first | exact .inl (by decide) | exact .inr (.inl (by decide)) | exact .inr (.inr fun s2 => by simp [k0, k5, k6, k4, abuiltin, alen, alenOk, ti9, isStrD, aidx, AV.isStr, hj, hji, hji2, n58, w1, tp, hp1, hp2, hp3, hc, hcl, pNum, hnum, aextract, aunop, G7, abound, asliceOk, aslice, hnv, hnv2, hnv3, w3, w4, w5, w6, t1, t2, t3, q1, q2, q3, htx, htl, hnum2, hpx, hpi, hp, b1, b2, b3, ti34, ti4, ti9, ti2, ti22, abuild, afill, placesOf, abuildSlice, chunks, elemOfT, elemId, ard, aappend, isSS])) ?_; (focus (first | (simp [k0, k5, k6, k4, abuiltin, alen, alenOk, ti9, isStrD, aidx, AV.isStr, hj, hji, hji2, n58, w1, tp, hp1, hp2, hp3, hc, hcl, pNum, hnum, aextract, aunop, G7, abound, asliceOk, aslice, hnv, hnv2, hnv3, w3, w4, w5, w6, t1, t2, t3, q1, q2, q3, htx, htl, hnum2, hpx, hpi, hp, b1, b2, b3, ti34, ti4, ti9, ti2, ti22, abuild, afill, placesOf, abuildSlice, chunks, elemOfT, elemId, ard, aappend, isSS]; done) | (simp [k0, k5, k6, k4, abuiltin, alen, alenOk, ti9, isStrD, aidx, AV.isStr, hj, hji, hji2, n58, w1, tp, hp1, hp2, hp3, hc, hcl, pNum, hnum, aextract, aunop, G7, abound, asliceOk, aslice, hnv, hnv2, hnv3, w3, w4, w5, w6, t1, t2, t3, q1, q2, q3, htx, htl, hnum2, hpx, hpi, hp, b1, b2, b3, ti34, ti4, ti9, ti2, ti22, abuild, afill, placesOf, abuildSlice, chunks, elemOfT, elemId, ard, aappend, isSS]; omega))); clear hA hB A B) | (refine hB ?_; clear hA hB A B))
                        | (refine RQ.st fun A B hA hB => ?_; simp [k0, k5, k6, k4, abuiltin, alen, alenOk, ti9, isStrD, aidx, AV.isStr, hj, hji, hji2, n58, w1, tp, hp1, hp2, hp3, hc, hcl, pNum, hnum, aextract, aunop, G7, abound, asliceOk, aslice, hnv, hnv2, hnv3, w3, w4, w5, w6, t1, t2, t3, q1, q2, q3, htx, htl, hnum2, hpx, hpi, hp, b1, b2, b3, ti34, ti4, ti9, ti2, ti22, abuild, afill, placesOf, abuildSlice, chunks, elemOfT, elemId, ard, aappend, isSS, onW_t, onW_f, onV_s]; first | (refine hA _ _ _ ?_ (by first | exact .inl rfl | exact .inr (by decide)) ?_; (focus (first | (simp [k0, k5, k6, k4, abuiltin, alen, alenOk, ti9, isStrD, aidx, AV.isStr, hj, hji, hji2, n58, w1, tp, hp1, hp2, hp3, hc, hcl, pNum, hnum, aextract, aunop, G7, abound, asliceOk, aslice, hnv, hnv2, hnv3, w3, w4, w5, w6, t1, t2, t3, q1, q2, q3, htx, htl, hnum2, hpx, hpi, hp, b1, b2, b3, ti34, ti4, ti9, ti2, ti22, abuild, afill, placesOf, abuildSlice, chunks, elemOfT, elemId, ard, aappend, isSS]; done) | (simp [k0, k5, k6, k4, abuiltin, alen, alenOk, ti9, isStrD, aidx, AV.isStr, hj, hji, hji2, n58, w1, tp, hp1, hp2, hp3, hc, hcl, pNum, hnum, aextract, aunop, G7, abound, asliceOk, aslice, hnv, hnv2, hnv3, w3, w4, w5, w6, t1, t2, t3, q1, q2, q3, htx, htl, hnum2, hpx, hpi, hp, b1, b2, b3, ti34, ti4, ti9, ti2, ti22, abuild, afill, placesOf, abuildSlice, chunks, elemOfT, elemId, ard, aappend, isSS]; omega))); clear hA hB A B) | (refine hB ?_; clear hA hB A B))
                        | refine WP.sr fun k hk => ?_ | refine WP.r fun k hk => ?_ | refine WP.sd _ rfl fun k hk => ?_ | refine WP.d _ rfl fun k hk => ?_
                        | (refine WP.cc fun A B hA hB => ?_; simp [k0, k5, k6, k4, abuiltin, alen, alenOk, ti9, isStrD, aidx, AV.isStr, hj, hji, hji2, n58, w1, tp, hp1, hp2, hp3, hc, hcl, pNum, hnum, aextract, aunop, G7, abound, asliceOk, aslice, hnv, hnv2, hnv3, w3, w4, w5, w6, t1, t2, t3, q1, q2, q3, htx, htl, hnum2, hpx, hpi, hp, b1, b2, b3, ti34, ti4, ti9, ti2, ti22, abuild, afill, placesOf, abuildSlice, chunks, elemOfT, elemId, ard, aappend, isSS, onB_t, onB_f]; first | (refine hA ?_; clear hA hB A B) | (refine hB ?_; clear hA hB A B) | (refine onB_if (fun h => hA ?_) (fun h => hB ?_) <;> clear hA hB A B))
                        | refine WP.q ?_ | refine WP.b ?_)
                      refine ⟨x.length - (j + 1 + nv.toNat), by omega, j + 1 + nv.toNat, [⟨false, [], m⟩], by omega, by simp [k0], by simp; omega, by simp; omega, by simp; omega, by simpa using hback2, .inr ⟨by simp, s2.nx + 1, by omega, by simp, by simp, ?_⟩⟩
                      simp [V.cs]
                    · subst g4
                      have n1 : ¬ rd = s2.nx := by omega
                      have n2 : ¬ rd = s2.nx + 1 := by omega
                      have hby : (acc.length + 1) * 32 ≤ 140737488355328 := by omega
                      repeat' (first
                        | refine WP.t ?_ | refine WP.k ?_ | refine WP.e ?_ | refine Qn ?_ | refine Qr ?_ | refine Qe ?_ | refine Bn ?_ | refine Br ?_ | refine Be ?_ | refine Bx (by decide) ?_
                        | (refine RS.nl ?_; refine hk _ _ ?_; clear hk k)
                        | (refine RS.st fun A B hA hB => ?_; simp [k0, k5, k6, k4, abuiltin, alen, alenOk, ti9, isStrD, aidx, AV.isStr, hj, hji, hji2, n58, w1, tp, hp1, hp2, hp3, hc, hcl, pNum, hnum, aextract, aunop, G7, abound, asliceOk, aslice, hnv, hnv2, hnv3, w3, w4, w5, w6, t1, t2, t3, q1, q2, q3, htx, htl, hnum2, hpx, hpi, hp, b1, b2, b3, ti34, ti4, ti9, ti2, ti22, abuild, afill, placesOf, abuildSlice, chunks, elemOfT, elemId, ard, aappend, isSS, hr, n1, n2, hby, hrd, hrd2, onW_t, onW_f, onV_s]; first | (refine hA _ _ _ ?_ ?_; (focus (first | (simp [k0, k5, k6, k4, abuiltin, alen, alenOk, ti9, isStrD, aidx, AV.isStr, hj, hji, hji2, n58, w1, tp, hp1, hp2, hp3, hc, hcl, pNum, hnum, aextract, aunop, G7, abound, asliceOk, aslice, hnv, hnv2, hnv3, w3, w4, w5, w6, t1, t2, t3, q1, q2, q3, htx, htl, hnum2, hpx, hpi, hp, b1, b2, b3, ti34, ti4, ti9, ti2, ti22, abuild, afill, placesOf, abuildSlice, chunks, elemOfT, elemId, ard, aappend, isSS, hr, n1, n2, hby, hrd, hrd2]; done) | (simp [k0, k5, k6, k4, abuiltin, alen, alenOk, ti9, isStrD, aidx, AV.isStr, hj, hji, hji2, n58, w1, tp, hp1, hp2, hp3, hc, hcl, pNum, hnum, aextract, aunop, G7, abound, asliceOk, aslice, hnv, hnv2, hnv3, w3, w4, w5, w6, t1, t2, t3, q1, q2, q3, htx, htl, hnum2, hpx, hpi, hp, b1, b2, b3, ti34, ti4, ti9, ti2, ti22, abuild, afill, placesOf, abuildSlice, chunks, elemOfT, elemId, ard, aappend, isSS, hr, n1, n2, hby, hrd, hrd2]; omega))); clear hA hB A B) | (refine hB ?_; clear hA hB A B))
                        | (refine RQ.nl ?_; refine hk _ _ ?_; clear hk k)
                        | (refine RW.nl ?_; refine hk _ _ ?_; clear hk k)
                        | (refine RW.st fun A B hA hB => ?_; simp [k0, k5, k6, k4, abuiltin, alen, alenOk, ti9, isStrD, aidx, AV.isStr, hj, hji, hji2, n58, w1, tp, hp1, hp2, hp3, hc, hcl, pNum, hnum, aextract, aunop, G7, abound, asliceOk, aslice, hnv, hnv2, hnv3, w3, w4, w5, w6, t1, t2, t3, q1, q2, q3, htx, htl, hnum2, hpx, hpi, hp, b1, b2, b3, ti34, ti4, ti9, ti2, ti22, abuild, afill, placesOf, abuildSlice, chunks, elemOfT, elemId, ard, aappend, isSS, hr, n1, n2, hby, hrd, hrd2, onW_t, onW_f, onV_s]; first | (refine hA _ _ _ ?_ (by first | exact .inl (by decide) | exact .inr (.inl rfl) | exact .inr (.inr rfl)) (by first | exact .inl (by decide) | exact .inr (.inl (by decide)) | exact .inr (.inr fun s2 => by simp [k0, k5, k6, k4, abuiltin, alen, alenOk, ti9, isStrD, aidx, AV.isStr, hj, hji, hji2, n58, w1, tp, hp1, hp2, hp3, hc, hcl, pNum, hnum, aextract, aunop, G7, abound, asliceOk, aslice, hnv, hnv2, hnv3, w3, w4, w5, w6, t1, t2, t3, q1, q2, q3, htx, htl, hnum2, hpx, hpi, hp, b1, b2, b3, ti34, ti4, ti9, ti2, ti22, abuild, afill, placesOf, abuildSlice, chunks, elemOfT, elemId, ard, aappend, isSS, hr, n1, n2, hby, hrd, hrd2])) ?_; (focus (first | (simp [k0, k5, k6, k4, abuiltin, alen, alenOk, ti9, isStrD, aidx, AV.isStr, hj, hji, hji2, n58, w1, tp, hp1, hp2, hp3, hc, hcl, pNum, hnum, aextract, aunop, G7, abound, asliceOk, aslice, hnv, hnv2, hnv3, w3, w4, w5, w6, t1, t2, t3, q1, q2, q3, htx, htl, hnum2, hpx, hpi, hp, b1, b2, b3, ti34, ti4, ti9, ti2, ti22, abuild, afill, placesOf, abuildSlice, chunks, elemOfT, elemId, ard, aappend, isSS, hr, n1, n2, hby, hrd, hrd2]; done) | (simp [k0, k5, k6, k4, abuiltin, alen, alenOk, ti9, isStrD, aidx, AV.isStr, hj, hji, hji2, n58, w1, tp, hp1, hp2, hp3, hc, hcl, pNum, hnum, aextract, aunop, G7, abound, asliceOk, aslice, hnv, hnv2, hnv3, w3, w4, w5, w6, t1, t2, t3, q1, q2, q3, htx, htl, hnum2, hpx, hpi, hp, b1, b2, b3, ti34, ti4, ti9, ti2, ti22, abuild, afill, placesOf, abuildSlice, chunks, elemOfT, elemId, ard, aappend, isSS, hr, n1, n2, hby, hrd, hrd2]; omega))); clear hA hB A B) | (refine hB ?_; clear hA hB A B))
                        | (refine RQ.st fun A B hA hB => ?_; simp [k0, k5, k6, k4, abuiltin, alen, alenOk, ti9, isStrD, aidx, AV.isStr, hj, hji, hji2, n58, w1, tp, hp1, hp2, hp3, hc, hcl, pNum, hnum, aextract, aunop, G7, abound, asliceOk, aslice, hnv, hnv2, hnv3, w3, w4, w5, w6, t1, t2, t3, q1, q2, q3, htx, htl, hnum2, hpx, hpi, hp, b1, b2, b3, ti34, ti4, ti9, ti2, ti22, abuild, afill, placesOf, abuildSlice, chunks, elemOfT, elemId, ard, aappend, isSS, hr, n1, n2, hby, hrd, hrd2, onW_t, onW_f, onV_s]; first | (refine hA _ _ _ ?_ (by first | exact .inl rfl | exact .inr (by decide)) ?_; (focus (first | (simp [k0, k5, k6, k4, abuiltin, alen, alenOk, ti9, isStrD, aidx, AV.isStr, hj, hji, hji2, n58, w1, tp, hp1, hp2, hp3, hc, hcl, pNum, hnum, aextract, aunop, G7, abound, asliceOk, aslice, hnv, hnv2, hnv3, w3, w4, w5, w6, t1, t2, t3, q1, q2, q3, htx, htl, hnum2, hpx, hpi, hp, b1, b2, b3, ti34, ti4, ti9, ti2, ti22, abuild, afill, placesOf, abuildSlice, chunks, elemOfT, elemId, ard, aappend, isSS, hr, n1, n2, hby, hrd, hrd2]; done) | (simp [k0, k5, k6, k4, abuiltin, alen, alenOk, ti9, isStrD, aidx, AV.isStr, hj, hji, hji2, n58, w1, tp, hp1, hp2, hp3, hc, hcl, pNum, hnum, aextract, aunop, G7, abound, asliceOk, aslice, hnv, hnv2, hnv3, w3, w4, w5, w6, t1, t2, t3, q1, q2, q3, htx, htl, hnum2, hpx, hpi, hp, b1, b2, b3, ti34, ti4, ti9, ti2, ti22, abuild, afill, placesOf, abuildSlice, chunks, elemOfT, elemId, ard, aappend, isSS, hr, n1, n2, hby, hrd, hrd2]; omega))); clear hA hB A B) | (refine hB ?_; clear hA hB A B))
                        | refine WP.sr fun k hk => ?_ | refine WP.r fun k hk => ?_ | refine WP.sd _ rfl fun k hk => ?_ | refine WP.d _ rfl fun k hk => ?_
                        | (refine WP.cc fun A B hA hB => ?_; simp [k0, k5, k6, k4, abuiltin, alen, alenOk, ti9, isStrD, aidx, AV.isStr, hj, hji, hji2, n58, w1, tp, hp1, hp2, hp3, hc, hcl, pNum, hnum, aextract, aunop, G7, abound, asliceOk, aslice, hnv, hnv2, hnv3, w3, w4, w5, w6, t1, t2, t3, q1, q2, q3, htx, htl, hnum2, hpx, hpi, hp, b1, b2, b3, ti34, ti4, ti9, ti2, ti22, abuild, afill, placesOf, abuildSlice, chunks, elemOfT, elemId, ard, aappend, isSS, hr, n1, n2, hby, hrd, hrd2, onB_t, onB_f]; first | (refine hA ?_; clear hA hB A B) | (refine hB ?_; clear hA hB A B) | (refine onB_if (fun h => hA ?_) (fun h => hB ?_) <;> clear hA hB A B))
                        | refine WP.q ?_ | refine WP.b ?_)
                      refine ⟨x.length - (j + 1 + nv.toNat), by omega, j + 1 + nv.toNat, acc ++ [⟨false, [], m⟩], by omega, by simp [k0], by simp; omega, by simp; omega, by simp; omega, hback2, .inr ⟨by simp, s2.nx + 1, by omega, by simp, by simp, ?_⟩⟩
                      have e2 : ∀ s3 : St, s3.nx = s2.nx + 1 → ∀ o, (s3.push o).get (s2.nx + 1) = some o := fun s3 h o => by rw [← h]; exact St.get_push_same _ _
                      rw [e2 _ (by simp)]
                      simp [V.cs]
                · have b4 : ((x[p].toNat : Int) == 110) = false := by
                    have := byteq x[p] 110 (by omega)
                    rw [show ((110 : Nat) : Int) = 110 from rfl] at this
                    rw [this]; simpa using hu
                  have b3 : ((x[p].toNat : Int) != 110) = true := by simp only [bne, b4]; rfl
                  rw [if_neg (by rintro ⟨h, _⟩; exact hu h)] at hpart
                  rw [hbad hpart]
                  repeat' (first
                    | refine WP.t ?_ | refine WP.k ?_ | refine WP.e ?_ | refine Qn ?_ | refine Qr ?_ | refine Qe ?_ | refine Bn ?_ | refine Br ?_ | refine Be ?_ | refine Bx (by decide) ?_
                    | (refine RS.nl ?_; refine hk _ _ ?_; clear hk k)
                    | (refine RS.st fun A B hA hB => ?_; simp [k0, k5, k6, k4, abuiltin, alen, alenOk, ti9, isStrD, aidx, AV.isStr, hj, hji, hji2, n58, w1, tp, hp1, hp2, hp3, hc, hcl, pNum, hnum, aextract, aunop, G7, abound, asliceOk, aslice, hnv, hnv2, hnv3, w3, w4, w5, w6, t1, t2, t3, q1, q2, q3, htx, htl, hnum2, hpx, hpi, hp, b1, b2, b3, onW_t, onW_f, onV_s]; first | (refine hA _ _ _ ?_ ?_; (focus (first | (simp [k0, k5, k6, k4, abuiltin, alen, alenOk, ti9, isStrD, aidx, AV.isStr, hj, hji, hji2, n58, w1, tp, hp1, hp2, hp3, hc, hcl, pNum, hnum, aextract, aunop, G7, abound, asliceOk, aslice, hnv, hnv2, hnv3, w3, w4, w5, w6, t1, t2, t3, q1, q2, q3, htx, htl, hnum2, hpx, hpi, hp, b1, b2, b3]; done) | (simp [k0, k5, k6, k4, abuiltin, alen, alenOk, ti9, isStrD, aidx, AV.isStr, hj, hji, hji2, n58, w1, tp, hp1, hp2, hp3, hc, hcl, pNum, hnum, aextract, aunop, G7, abound, asliceOk, aslice, hnv, hnv2, hnv3, w3, w4, w5, w6, t1, t2, t3, q1, q2, q3, htx, htl, hnum2, hpx, hpi, hp, b1, b2, b3]; omega))); clear hA hB A B) | (refine hB ?_; clear hA hB A B))
                    | (refine RQ.nl ?_; refine hk _ _ ?_; clear hk k)
                    | (refine RW.nl ?_; refine hk _ _ ?_; clear hk k)
                    | (refine RW.st fun A B hA hB => ?_; simp [k0, k5, k6, k4, abuiltin, alen, alenOk, ti9, isStrD, aidx, AV.isStr, hj, hji, hji2, n58, w1, tp, hp1, hp2, hp3, hc, hcl, pNum, hnum, aextract, aunop, G7, abound, asliceOk, aslice, hnv, hnv2, hnv3, w3, w4, w5, w6, t1, t2, t3, q1, q2, q3, htx, htl, hnum2, hpx, hpi, hp, b1, b2, b3, onW_t, onW_f, onV_s]; first | (refine hA _ _ _ ?_ (by first | exact .inl (by decide) | exact .inr (.inl rfl) | exact .inr (.inr rfl)) (by first | exact .inl (by decide) | exact .inr (.inl (by decide)) | exact .inr (.inr fun s2 => by simp [k0, k5, k6, k4, abuiltin, alen, alenOk, ti9, isStrD, aidx, AV.isStr, hj, hji, hji2, n58, w1, tp, hp1, hp2, hp3, hc, hcl, pNum, hnum, aextract, aunop, G7, abound, asliceOk, aslice, hnv, hnv2, hnv3, w3, w4, w5, w6, t1, t2, t3, q1, q2, q3, htx, htl, hnum2, hpx, hpi, hp, b1, b2, b3])) ?_; (focus (first | (simp [k0, k5, k6, k4, abuiltin, alen, alenOk, ti9, isStrD, aidx, AV.isStr, hj, hji, hji2, n58, w1, tp, hp1, hp2, hp3, hc, hcl, pNum, hnum, aextract, aunop, G7, abound, asliceOk, aslice, hnv, hnv2, hnv3, w3, w4, w5, w6, t1, t2, t3, q1, q2, q3, htx, htl, hnum2, hpx, hpi, hp, b1, b2, b3]; done) | (simp [k0, k5, k6, k4, abuiltin, alen, alenOk, ti9, isStrD, aidx, AV.isStr, hj, hji, hji2, n58, w1, tp, hp1, hp2, hp3, hc, hcl, pNum, hnum, aextract, aunop, G7, abound, asliceOk, aslice, hnv, hnv2, hnv3, w3, w4, w5, w6, t1, t2, t3, q1, q2, q3, htx, htl, hnum2, hpx, hpi, hp, b1, b2, b3]; omega))); clear hA hB A B) | (refine hB ?_; clear hA hB A B))
                    | (refine RQ.st fun A B hA hB => ?_; simp [k0, k5, k6, k4, abuiltin, alen, alenOk, ti9, isStrD, aidx, AV.isStr, hj, hji, hji2, n58, w1, tp, hp1, hp2, hp3, hc, hcl, pNum, hnum, aextract, aunop, G7, abound, asliceOk, aslice, hnv, hnv2, hnv3, w3, w4, w5, w6, t1, t2, t3, q1, q2, q3, htx, htl, hnum2, hpx, hpi, hp, b1, b2, b3, onW_t, onW_f, onV_s]; first | (refine hA _ _ _ ?_ (by first | exact .inl rfl | exact .inr (by decide)) ?_; (focus (first | (simp [k0, k5, k6, k4, abuiltin, alen, alenOk, ti9, isStrD, aidx, AV.isStr, hj, hji, hji2, n58, w1, tp, hp1, hp2, hp3, hc, hcl, pNum, hnum, aextract, aunop, G7, abound, asliceOk, aslice, hnv, hnv2, hnv3, w3, w4, w5, w6, t1, t2, t3, q1, q2, q3, htx, htl, hnum2, hpx, hpi, hp, b1, b2, b3]; done) | (simp [k0, k5, k6, k4, abuiltin, alen, alenOk, ti9, isStrD, aidx, AV.isStr, hj, hji, hji2, n58, w1, tp, hp1, hp2, hp3, hc, hcl, pNum, hnum, aextract, aunop, G7, abound, asliceOk, aslice, hnv, hnv2, hnv3, w3, w4, w5, w6, t1, t2, t3, q1, q2, q3, htx, htl, hnum2, hpx, hpi, hp, b1, b2, b3]; omega))); clear hA hB A B) | (refine hB ?_; clear hA hB A B))
                    | refine WP.sr fun k hk => ?_ | refine WP.r fun k hk => ?_ | refine WP.sd _ rfl fun k hk => ?_ | refine WP.d _ rfl fun k hk => ?_
                    | (refine WP.cc fun A B hA hB => ?_; simp [k0, k5, k6, k4, abuiltin, alen, alenOk, ti9, isStrD, aidx, AV.isStr, hj, hji, hji2, n58, w1, tp, hp1, hp2, hp3, hc, hcl, pNum, hnum, aextract, aunop, G7, abound, asliceOk, aslice, hnv, hnv2, hnv3, w3, w4, w5, w6, t1, t2, t3, q1, q2, q3, htx, htl, hnum2, hpx, hpi, hp, b1, b2, b3, onB_t, onB_f]; first | (refine hA ?_; clear hA hB A B) | (refine hB ?_; clear hA hB A B) | (refine onB_if (fun h => hA ?_) (fun h => hB ?_) <;> clear hA hB A B))
                    | refine WP.q ?_ | refine WP.b ?_)
                  exact ⟨.inr rfl, .tup [.nsl, .int .i64 2], by simp, frz_bad2⟩
      · have n58 : ((x[j].toNat : Int) != 58) = true := by rw [hj58]; simpa using h58
        have w2 : IntKind.i64.wrap ((j : Int) + 1) = (j : Int) + 1 := wrap64 (by omega) (by omega)
        repeat' (first
          | refine WP.t ?_ | refine WP.k ?_ | refine WP.e ?_ | refine Qn ?_ | refine Qr ?_ | refine Qe ?_ | refine Bn ?_ | refine Br ?_ | refine Be ?_ | refine Bx (by decide) ?_
          | (refine RS.nl ?_; refine hk _ _ ?_; clear hk k)
          | (refine RS.st fun A B hA hB => ?_; simp [k0, k5, k6, abuiltin, alen, alenOk, ti9, isStrD, aidx, AV.isStr, hj, hji, n58, w2, onW_t, onW_f, onV_s]; first | (refine hA _ _ _ ?_ ?_; (focus (first | (simp [k0, k5, k6, abuiltin, alen, alenOk, ti9, isStrD, aidx, AV.isStr, hj, hji, n58, w2]; done) | (simp [k0, k5, k6, abuiltin, alen, alenOk, ti9, isStrD, aidx, AV.isStr, hj, hji, n58, w2]; omega))); clear hA hB A B) | (refine hB ?_; clear hA hB A B))
          | (refine RQ.nl ?_; refine hk _ _ ?_; clear hk k)
          | (refine RW.nl ?_; refine hk _ _ ?_; clear hk k)
          | (refine RW.st fun A B hA hB => ?_; simp [k0, k5, k6, abuiltin, alen, alenOk, ti9, isStrD, aidx, AV.isStr, hj, hji, n58, w2, onW_t, onW_f, onV_s]; first | (refine hA _ _ _ ?_ (by first | exact .inl (by decide) | exact .inr (.inl rfl) | exact .inr (.inr rfl)) (by first | exact .inl (by decide) | exact .inr (.inl (by decide)) | exact .inr (.inr fun s2 => by simp [k0, k5, k6, abuiltin, alen, alenOk, ti9, isStrD, aidx, AV.isStr, hj, hji, n58, w2])) ?_; (focus (first | (simp [k0, k5, k6, abuiltin, alen, alenOk, ti9, isStrD, aidx, AV.isStr, hj, hji, n58, w2]; done) | (simp [k0, k5, k6, abuiltin, alen, alenOk, ti9, isStrD, aidx, AV.isStr, hj, hji, n58, w2]; omega))); clear hA hB A B) | (refine hB ?_; clear hA hB A B))
          | (refine RQ.st fun A B hA hB => ?_; simp [k0, k5, k6, abuiltin, alen, alenOk, ti9, isStrD, aidx, AV.isStr, hj, hji, n58, w2, onW_t, onW_f, onV_s]; first | (refine hA _ _ _ ?_ (by first | exact .inl rfl | exact .inr (by decide)) ?_; (focus (first | (simp [k0, k5, k6, abuiltin, alen, alenOk, ti9, isStrD, aidx, AV.isStr, hj, hji, n58, w2]; done) | (simp [k0, k5, k6, abuiltin, alen, alenOk, ti9, isStrD, aidx, AV.isStr, hj, hji, n58, w2]; omega))); clear hA hB A B) | (refine hB ?_; clear hA hB A B))
          | refine WP.sr fun k hk => ?_ | refine WP.r fun k hk => ?_ | refine WP.sd _ rfl fun k hk => ?_ | refine WP.d _ rfl fun k hk => ?_
          | (refine WP.cc fun A B hA hB => ?_; simp [k0, k5, k6, abuiltin, alen, alenOk, ti9, isStrD, aidx, AV.isStr, hj, hji, n58, w2, onB_t, onB_f]; first | (refine hA ?_; clear hA hB A B) | (refine hB ?_; clear hA hB A B) | (refine onB_if (fun h => hA ?_) (fun h => hB ?_) <;> clear hA hB A B))
          | refine WP.q ?_ | refine WP.b ?_)
        refine ⟨n2 - 1, by omega, j + 1, by omega, rfl, by simp [k0], by simp [k5], by simp, by simp [k4], by omega, by omega, fun b hb => ?_⟩
        have e : j + 1 - (p + 1) = (j - (p + 1)) + 1 := by omega
        rw [e] at hb
        have hlt : j - (p + 1) < (x.drop (p + 1)).length := by rw [List.length_drop]; omega
        rw [List.take_succ_eq_append_getElem hlt] at hb
        rcases List.mem_append.1 hb with h | h
        · exact hno b h
        · simp at h
          have e2 : p + 1 + (j - (p + 1)) = j := by omega
          simp only [e2] at h
          rw [h]; exact h58
    · have hji : ¬ (j : Int) < (x.length : Int) := by omega
      have hji2 : (x.length : Int) ≤ (j : Int) := by omega
      have hje : j = x.length := by omega
      have hpart : partR (x.drop p) = none := partR_end (fun b hb => hno b (by rw [List.take_of_length_le (by rw [List.length_drop]; omega)]; exact hb)) hp
      have hbad : backRA x = .tup [.sl [], .int .i64 2] := by
        unfold backRA
        rw [hback, backR_bad hdne hpart]
        rfl
      have tp : ((p : Int) + 1).toNat = p + 1 := by omega
      have hp1 : 0 ≤ (p : Int) + 1 := by omega
      have hp2 : (p : Int) + 1 ≤ (j : Int) := by omega
      have hp3 : (j : Int) ≤ (x.length : Int) := by omega
      have hcl : ((x.drop (p + 1)).take (j - (p + 1))).length ≤ 100000000 := by rw [List.length_take, List.length_drop]; omega
      generalize hc : (x.drop (p + 1)).take (j - (p + 1)) = c at *
      rw [hbad]
      repeat' (first
        | refine WP.t ?_ | refine WP.k ?_ | refine WP.e ?_ | refine Qn ?_ | refine Qr ?_ | refine Qe ?_ | refine Bn ?_ | refine Br ?_ | refine Be ?_ | refine Bx (by decide) ?_
        | (refine RS.nl ?_; refine hk _ _ ?_; clear hk k)
        | (refine RS.st fun A B hA hB => ?_; simp [k0, k5, k6, k4, abuiltin, alen, alenOk, ti9, isStrD, aidx, AV.isStr, hj, hji, hji2, w1, tp, hp1, hp2, hp3, hc, hcl, pNum, aextract, aunop, G7, abound, asliceOk, aslice, onW_t, onW_f, onV_s]; first | (refine hA _ _ _ ?_ ?_; (focus (first | (simp [k0, k5, k6, k4, abuiltin, alen, alenOk, ti9, isStrD, aidx, AV.isStr, hj, hji, hji2, w1, tp, hp1, hp2, hp3, hc, hcl, pNum, aextract, aunop, G7, abound, asliceOk, aslice]; done) | (simp [k0, k5, k6, k4, abuiltin, alen, alenOk, ti9, isStrD, aidx, AV.isStr, hj, hji, hji2, w1, tp, hp1, hp2, hp3, hc, hcl, pNum, aextract, aunop, G7, abound, asliceOk, aslice]; omega))); clear hA hB A B) | (refine hB ?_; clear hA hB A B))
        | (refine RQ.nl ?_; refine hk _ _ ?_; clear hk k)
        | (refine RW.nl ?_; refine hk _ _ ?_; clear hk k)
        | (refine RW.st fun A B hA hB => ?_; simp [k0, k5, k6, k4, abuiltin, alen, alenOk, ti9, isStrD, aidx, AV.isStr, hj, hji, hji2, w1, tp, hp1, hp2, hp3, hc, hcl, pNum, aextract, aunop, G7, abound, asliceOk, aslice, onW_t, onW_f, onV_s]; first | (refine hA _ _ _ ?_ (by first | exact .inl (by decide) | exact .inr (.inl rfl) | exact .inr (.inr rfl)) (by first | exact .inl (by decide) | exact .inr (.inl (by decide)) | exact .inr (.inr fun s2 => by simp [k0, k5, k6, k4, abuiltin, alen, alenOk, ti9, isStrD, aidx, AV.isStr, hj, hji, hji2, w1, tp, hp1, hp2, hp3, hc, hcl, pNum, aextract, aunop, G7, abound, asliceOk, aslice])) ?_; (focus (first | (simp [k0, k5, k6, k4, abuiltin, alen, alenOk, ti9, isStrD, aidx, AV.isStr, hj, hji, hji2, w1, tp, hp1, hp2, hp3, hc, hcl, pNum, aextract, aunop, G7, abound, asliceOk, aslice]; done) | (simp [k0, k5, k6, k4, abuiltin, alen, alenOk, ti9, isStrD, aidx, AV.isStr, hj, hji, hji2, w1, tp, hp1, hp2, hp3, hc, hcl, pNum, aextract, aunop, G7, abound, asliceOk, aslice]; omega))); clear hA hB A B) | (refine hB ?_; clear hA hB A B))
        | (refine RQ.st fun A B hA hB => ?_; simp [k0, k5, k6, k4, abuiltin, alen, alenOk, ti9, isStrD, aidx, AV.isStr, hj, hji, hji2, w1, tp, hp1, hp2, hp3, hc, hcl, pNum, aextract, aunop, G7, abound, asliceOk, aslice, onW_t, onW_f, onV_s]; first | (refine hA _ _ _ ?_ (by first | exact .inl rfl | exact .inr (by decide)) ?_; (focus (first | (simp [k0, k5, k6, k4, abuiltin, alen, alenOk, ti9, isStrD, aidx, AV.isStr, hj, hji, hji2, w1, tp, hp1, hp2, hp3, hc, hcl, pNum, aextract, aunop, G7, abound, asliceOk, aslice]; done) | (simp [k0, k5, k6, k4, abuiltin, alen, alenOk, ti9, isStrD, aidx, AV.isStr, hj, hji, hji2, w1, tp, hp1, hp2, hp3, hc, hcl, pNum, aextract, aunop, G7, abound, asliceOk, aslice]; omega))); clear hA hB A B) | (refine hB ?_; clear hA hB A B))
        | refine WP.sr fun k hk => ?_ | refine WP.r fun k hk => ?_ | refine WP.sd _ rfl fun k hk => ?_ | refine WP.d _ rfl fun k hk => ?_
        | (refine WP.cc fun A B hA hB => ?_; simp [k0, k5, k6, k4, abuiltin, alen, alenOk, ti9, isStrD, aidx, AV.isStr, hj, hji, hji2, w1, tp, hp1, hp2, hp3, hc, hcl, pNum, aextract, aunop, G7, abound, asliceOk, aslice, onB_t, onB_f]; first | (refine hA ?_; clear hA hB A B) | (refine hB ?_; clear hA hB A B) | (refine onB_if (fun h => hA ?_) (fun h => hB ?_) <;> clear hA hB A B))
        | refine WP.q ?_ | refine WP.b ?_)
      exact ⟨.inr rfl, .tup [.nsl, .int .i64 2], by simp, frz_bad2⟩
  · have hpe : p = x.length := by omega
    have hpi : ¬ (p : Int) < (x.length : Int) := by omega
    have hres : backRA x = .tup [.sl (acc.map V.cs), .int .i64 0] := by
      unfold backRA
      rw [hback, hpe, List.drop_length, backR_nil]
      simp
    rw [hres]
    rcases hB with ⟨h0, g4⟩ | ⟨h0, rd, hrd, hrd2, g4, hr⟩
    · subst h0
      repeat' (first
        | refine WP.t ?_ | refine WP.k ?_ | refine WP.e ?_ | refine Qn ?_ | refine Qr ?_ | refine Qe ?_ | refine Bn ?_ | refine Br ?_ | refine Be ?_ | refine Bx (by decide) ?_
        | (refine RS.nl ?_; refine hk _ _ ?_; clear hk k)
        | (refine RS.st fun A B hA hB => ?_; simp [g0, g5, g4, hp, hpi, abuiltin, alen, alenOk, ti9, onW_t, onW_f, onV_s]; first | (refine hA _ _ _ ?_ ?_; (focus (first | (simp [g0, g5, g4, hp, hpi, abuiltin, alen, alenOk, ti9]; done) | (simp [g0, g5, g4, hp, hpi, abuiltin, alen, alenOk, ti9]; omega))); clear hA hB A B) | (refine hB ?_; clear hA hB A B))
        | (refine RQ.nl ?_; refine hk _ _ ?_; clear hk k)
        | (refine RW.nl ?_; refine hk _ _ ?_; clear hk k)
        | (refine RW.st fun A B hA hB => ?_; simp [g0, g5, g4, hp, hpi, abuiltin, alen, alenOk, ti9, onW_t, onW_f, onV_s]; first | (refine hA _ _ _ ?_ (by first | exact .inl (by decide) | exact .inr (.inl rfl) | exact .inr (.inr rfl)) (by first | exact .inl (by decide) | exact .inr (.inl (by decide)) | exact .inr (.inr fun s2 => by simp [g0, g5, g4, hp, hpi, abuiltin, alen, alenOk, ti9])) ?_; (focus (first | (simp [g0, g5, g4, hp, hpi, abuiltin, alen, alenOk, ti9]; done) | (simp [g0, g5, g4, hp, hpi, abuiltin, alen, alenOk, ti9]; omega))); clear hA hB A B) | (refine hB ?_; clear hA hB A B))
        | (refine RQ.st fun A B hA hB => ?_; simp [g0, g5, g4, hp, hpi, abuiltin, alen, alenOk, ti9, onW_t, onW_f, onV_s]; first | (refine hA _ _ _ ?_ (by first | exact .inl rfl | exact .inr (by decide)) ?_; (focus (first | (simp [g0, g5, g4, hp, hpi, abuiltin, alen, alenOk, ti9]; done) | (simp [g0, g5, g4, hp, hpi, abuiltin, alen, alenOk, ti9]; omega))); clear hA hB A B) | (refine hB ?_; clear hA hB A B))
        | refine WP.sr fun k hk => ?_ | refine WP.r fun k hk => ?_ | refine WP.sd _ rfl fun k hk => ?_ | refine WP.d _ rfl fun k hk => ?_
        | (refine WP.cc fun A B hA hB => ?_; simp [g0, g5, g4, hp, hpi, abuiltin, alen, alenOk, ti9, onB_t, onB_f]; first | (refine hA ?_; clear hA hB A B) | (refine hB ?_; clear hA hB A B) | (refine onB_if (fun h => hA ?_) (fun h => hB ?_) <;> clear hA hB A B))
        | refine WP.q ?_ | refine WP.b ?_)
      exact ⟨.inr rfl, .tup [.nsl, .int .i64 0], by simp [g4], .tup _ _ rfl (frz_pair .nil (.same _ (.int _ _)))⟩
    · skip
      repeat' (first
        | refine WP.t ?_ | refine WP.k ?_ | refine WP.e ?_ | refine Qn ?_ | refine Qr ?_ | refine Qe ?_ | refine Bn ?_ | refine Br ?_ | refine Be ?_ | refine Bx (by decide) ?_
        | (refine RS.nl ?_; refine hk _ _ ?_; clear hk k)
        | (refine RS.st fun A B hA hB => ?_; simp [g0, g5, g4, hp, hpi, abuiltin, alen, alenOk, ti9, onW_t, onW_f, onV_s]; first | (refine hA _ _ _ ?_ ?_; (focus (first | (simp [g0, g5, g4, hp, hpi, abuiltin, alen, alenOk, ti9]; done) | (simp [g0, g5, g4, hp, hpi, abuiltin, alen, alenOk, ti9]; omega))); clear hA hB A B) | (refine hB ?_; clear hA hB A B))
        | (refine RQ.nl ?_; refine hk _ _ ?_; clear hk k)
        | (refine RW.nl ?_; refine hk _ _ ?_; clear hk k)
        | (refine RW.st fun A B hA hB => ?_; simp [g0, g5, g4, hp, hpi, abuiltin, alen, alenOk, ti9, onW_t, onW_f, onV_s]; first | (refine hA _ _ _ ?_ (by first | exact .inl (by decide) | exact .inr (.inl rfl) | exact .inr (.inr rfl)) (by first | exact .inl (by decide) | exact .inr (.inl (by decide)) | exact .inr (.inr fun s2 => by simp [g0, g5, g4, hp, hpi, abuiltin, alen, alenOk, ti9])) ?_; (focus (first | (simp [g0, g5, g4, hp, hpi, abuiltin, alen, alenOk, ti9]; done) | (simp [g0, g5, g4, hp, hpi, abuiltin, alen, alenOk, ti9]; omega))); clear hA hB A B) | (refine hB ?_; clear hA hB A B))
        | (refine RQ.st fun A B hA hB => ?_; simp [g0, g5, g4, hp, hpi, abuiltin, alen, alenOk, ti9, onW_t, onW_f, onV_s]; first | (refine hA _ _ _ ?_ (by first | exact .inl rfl | exact .inr (by decide)) ?_; (focus (first | (simp [g0, g5, g4, hp, hpi, abuiltin, alen, alenOk, ti9]; done) | (simp [g0, g5, g4, hp, hpi, abuiltin, alen, alenOk, ti9]; omega))); clear hA hB A B) | (refine hB ?_; clear hA hB A B))
        | refine WP.sr fun k hk => ?_ | refine WP.r fun k hk => ?_ | refine WP.sd _ rfl fun k hk => ?_ | refine WP.d _ rfl fun k hk => ?_
        | (refine WP.cc fun A B hA hB => ?_; simp [g0, g5, g4, hp, hpi, abuiltin, alen, alenOk, ti9, onB_t, onB_f]; first | (refine hA ?_; clear hA hB A B) | (refine hB ?_; clear hA hB A B) | (refine onB_if (fun h => hA ?_) (fun h => hB ?_) <;> clear hA hB A B))
        | refine WP.q ?_ | refine WP.b ?_)
      refine ⟨.inr rfl, .tup [.ls rd 0 acc.length, .int .i64 0], by simp [g4], .tup _ _ rfl (frz_pair ?_ (.same _ (.int _ _)))⟩
      have hlen : acc.length = (List.map V.cs acc).length := by simp
      rw [hlen]
      exact frz_rows hr hrd
def pBackR : List AV → Option AV
  | [.str x] => if x.length ≤ 100000000 then some (backRA x) else none
  | _ => none
noncomputable def G8 : Fns := G7.addP 21 pBackR
theorem G8_ok (hK : 3 < K) (hT : Tens gw) (hE : Errs gw) : FOk (env K gw) G8 := by
  refine (G7_ok hK hT hE).addP ?_
  intro xs s r h; unfold pBackR at h; split at h
  · split at h
    · rename_i hc; cases h; exact ft21 hK hT hE _ hc
    · cases h
  · cases h
theorem back_same (x : List UInt8) (hl : x.length ≤ 100000000) : backRA x = backA x ∧ (backA x = .tup [.sl [], .int .i64 2] ∨ ∃ l : List V, okT l = true ∧ VsizeL l ≤ x.length ∧ backA x = .tup [.sl (l.map V.cs), .int .i64 0]) := by
  unfold backRA backA
  cases h : backR x with
  | none =>
    cases h2 : backS x with
    | none => exact ⟨rfl, .inl rfl⟩
    | some l =>
      by_cases hk : keyT l = x
      · exfalso
        obtain ⟨h3, h4⟩ := back_size _ _ _ h2
        have h5 : ∀ v ∈ l, i64ok v.n = true ∧ v.s.length < 4611686018427387904 := fun v hv => by
          refine ⟨h4 v hv, ?_⟩
          have : v.s.length + 1 ≤ VsizeL l := by
            clear h h2 hk h3 h4
            induction l with
            | nil => cases hv
            | cons u l ih =>
              simp only [VsizeL, List.map_cons, List.sum_cons] at ih ⊢
              rcases List.mem_cons.1 hv with rfl | hv
              · omega
              · have := ih hv; omega
          omega
        have := backR_key l h5
        rw [hk, h] at this
        cases this
      · simp only
        rw [if_neg hk]
        exact ⟨rfl, .inl rfl⟩
  | some l =>
    obtain ⟨h1, h2, h3, h4⟩ := backR_some _ x l (Nat.lt_succ_self _) h
    have h5 : ∀ v ∈ l, i64ok v.n = true ∧ v.s.length < 4611686018427387904 := fun v hv => by
      refine ⟨h4 v hv, ?_⟩
      have : v.s.length + 1 ≤ VsizeL l := by
        clear h h1 h2 h3 h4
        induction l with
        | nil => cases hv
        | cons u l ih =>
          simp only [VsizeL, List.map_cons, List.sum_cons] at ih ⊢
          rcases List.mem_cons.1 hv with rfl | hv
          · omega
          · have := ih hv; omega
      omega
    have h6 : backS x = some l := by
      have := back_key l (x.length + 1) h5 (by rw [h1]; omega)
      rw [h1, h2] at this
      exact this
    rw [h6]
    simp only
    rw [if_pos h1]
    exact ⟨rfl, .inr ⟨l, ok_of_size l h4 (by omega), h3, rfl⟩⟩
end
end Go.Am
namespace Go.Am
open Go.Proofs
section
variable {K : Nat} {gw : World} {s : St}
attribute [local simp] RS_cons' RS_nil RQ_nil RQ_cons' awanted xop zOf zrow aop ev T0 Slots.put Slots.set Slots.get awr WOk AV.may ofConst abinop aint isConst St.get_push St.get_put St.live AV.fit AV.cells AV.one fieldOf afieldAddr aload ofCells astore splice May eqres env_ti FinP ares aresL ares1 Fns.addP Fns.add
theorem okS_of {l : List V} (h : VsizeL l ≤ 200000000) : okS l = true := by
  have h2 := len_Vsize l
  simp only [okS, Bool.and_eq_true, decide_eq_true_eq, List.all_eq_true]
  refine ⟨by unfold LIM; omega, fun v hv => ?_⟩
  have : v.s.length + 1 ≤ VsizeL l := by
    clear h h2
    induction l with
    | nil => cases hv
    | cons u l ih =>
      simp only [VsizeL, List.map_cons, List.sum_cons] at ih ⊢
      rcases List.mem_cons.1 hv with rfl | hv
      · omega
      · have := ih hv; omega
  unfold LIM; omega
set_option maxRecDepth 20000 in
set_option maxHeartbeats 8000000 in
theorem ft9 (hK : 3 < K) (hT : Tens gw) (hE : Errs gw) (a b : List V) (x : List UInt8) (c : List Int) (ha : okT a = true) (has : okS a = true) (hbs : okS b = true) (hal : a.length < 1073741824) (hx : x.length ≤ 100000000) (hc : c.length < 1073741824) :
    FT (env K gw) NoW 9 [.sl (a.map V.cs), .sl (b.map V.cs), .str x, .sl (ints c)] s (.bool true) s := by
  have hal2 : a.length < LIM := by unfold LIM; omega
  have hbl2 : b.length < LIM := by simp only [okS, Bool.and_eq_true, decide_eq_true_eq] at hbs; exact hbs.1
  refine FT.pure (fn := Tryd.f9) (G8_ok hK hT hE) mixed Tryd.func9 (by kernel_rfl) (by rfl) rfl rfl (by simp) (by kernel_rfl) fun μ w => ?_
  obtain ⟨hsame, hbk⟩ := back_same x hx
  have hpr : projT a c = .tup [.sl [], .int .i64 1] ∨ ∃ l : List V, l.length < LIM ∧ projT a c = .tup [.sl (l.map V.cs), .int .i64 0] := by
    unfold projT
    split
    · exact .inr ⟨c.map (getI a), by rw [List.length_map]; unfold LIM; omega, rfl⟩
    · exact .inl rfl
  have hbar : (a.map bareV).length < LIM := by rw [List.length_map]; exact hal2
  generalize hbb : a.map bareV = ab at *
  have hnil : decL [] = some [] := rfl
  have hlim : ([] : List V).length < LIM := by simp [LIM]
  rcases hbk with hbk | ⟨l, hl1, hl3, hbk⟩ <;> rcases hpr with hpr | ⟨q, hq, hpr⟩
  · skip
    repeat' (first
      | refine WP.t ?_ | refine WP.k ?_ | refine WP.e ?_ | refine Qn ?_ | refine Qr ?_ | refine Qe ?_ | refine Bn ?_ | refine Br ?_ | refine Be ?_ | refine Bx (by decide) ?_
      | (refine RS.nl ?_; refine hk _ _ ?_; clear hk k)
      | (refine RS.st fun A B hA hB => ?_; simp [G8, G7, G6, G5, G4, G3, G2, G1, F13, F12, F11, F10, F9, F8, F7, F6, F5, F4, pShown, pCmpT, pBack, pBackR, pProj, pProjR, pCmpR, pKeyR, pOf, pOfR, pSameT, ha, has, hbs, hal, hal2, hbl2, hx, hc, hsame, hbk, hpr, hbb, hbar, hnil, hlim, aextract, ti22, astrop, aunop, onW_t, onW_f, onV_s]; first | (refine hA _ _ _ ?_ ?_; (focus (first | (simp [G8, G7, G6, G5, G4, G3, G2, G1, F13, F12, F11, F10, F9, F8, F7, F6, F5, F4, pShown, pCmpT, pBack, pBackR, pProj, pProjR, pCmpR, pKeyR, pOf, pOfR, pSameT, ha, has, hbs, hal, hal2, hbl2, hx, hc, hsame, hbk, hpr, hbb, hbar, hnil, hlim, aextract, ti22, astrop, aunop]; done) | (simp [G8, G7, G6, G5, G4, G3, G2, G1, F13, F12, F11, F10, F9, F8, F7, F6, F5, F4, pShown, pCmpT, pBack, pBackR, pProj, pProjR, pCmpR, pKeyR, pOf, pOfR, pSameT, ha, has, hbs, hal, hal2, hbl2, hx, hc, hsame, hbk, hpr, hbb, hbar, hnil, hlim, aextract, ti22, astrop, aunop]; omega))); clear hA hB A B) | (refine hB ?_; clear hA hB A B))
      | (refine RQ.nl ?_; refine hk _ _ ?_; clear hk k)
      | (refine RW.nl ?_; refine hk _ _ ?_; clear hk k)
      | (refine RW.st fun A B hA hB => ?_; simp [G8, G7, G6, G5, G4, G3, G2, G1, F13, F12, F11, F10, F9, F8, F7, F6, F5, F4, pShown, pCmpT, pBack, pBackR, pProj, pProjR, pCmpR, pKeyR, pOf, pOfR, pSameT, ha, has, hbs, hal, hal2, hbl2, hx, hc, hsame, hbk, hpr, hbb, hbar, hnil, hlim, aextract, ti22, astrop, aunop, onW_t, onW_f, onV_s]; first | (refine hA _ _ _ ?_ (by first | exact .inl (by decide) | exact .inr (.inl rfl) | exact .inr (.inr rfl)) (by first | exact .inl (by decide) | exact .inr (.inl (by decide)) | exact .inr (.inr fun s2 => by simp [G8, G7, G6, G5, G4, G3, G2, G1, F13, F12, F11, F10, F9, F8, F7, F6, F5, F4, pShown, pCmpT, pBack, pBackR, pProj, pProjR, pCmpR, pKeyR, pOf, pOfR, pSameT, ha, has, hbs, hal, hal2, hbl2, hx, hc, hsame, hbk, hpr, hbb, hbar, hnil, hlim, aextract, ti22, astrop, aunop])) ?_; (focus (first | (simp [G8, G7, G6, G5, G4, G3, G2, G1, F13, F12, F11, F10, F9, F8, F7, F6, F5, F4, pShown, pCmpT, pBack, pBackR, pProj, pProjR, pCmpR, pKeyR, pOf, pOfR, pSameT, ha, has, hbs, hal, hal2, hbl2, hx, hc, hsame, hbk, hpr, hbb, hbar, hnil, hlim, aextract, ti22, astrop, aunop]; done) | (simp [G8, G7, G6, G5, G4, G3, G2, G1, F13, F12, F11, F10, F9, F8, F7, F6, F5, F4, pShown, pCmpT, pBack, pBackR, pProj, pProjR, pCmpR, pKeyR, pOf, pOfR, pSameT, ha, has, hbs, hal, hal2, hbl2, hx, hc, hsame, hbk, hpr, hbb, hbar, hnil, hlim, aextract, ti22, astrop, aunop]; omega))); clear hA hB A B) | (refine hB ?_; clear hA hB A B))
      | (refine RQ.st fun A B hA hB => ?_; simp [G8, G7, G6, G5, G4, G3, G2, G1, F13, F12, F11, F10, F9, F8, F7, F6, F5, F4, pShown, pCmpT, pBack, pBackR, pProj, pProjR, pCmpR, pKeyR, pOf, pOfR, pSameT, ha, has, hbs, hal, hal2, hbl2, hx, hc, hsame, hbk, hpr, hbb, hbar, hnil, hlim, aextract, ti22, astrop, aunop, onW_t, onW_f, onV_s]; first | (refine hA _ _ _ ?_ (by first | exact .inl rfl | exact .inr (by decide)) ?_; (focus (first | (simp [G8, G7, G6, G5, G4, G3, G2, G1, F13, F12, F11, F10, F9, F8, F7, F6, F5, F4, pShown, pCmpT, pBack, pBackR, pProj, pProjR, pCmpR, pKeyR, pOf, pOfR, pSameT, ha, has, hbs, hal, hal2, hbl2, hx, hc, hsame, hbk, hpr, hbb, hbar, hnil, hlim, aextract, ti22, astrop, aunop]; done) | (simp [G8, G7, G6, G5, G4, G3, G2, G1, F13, F12, F11, F10, F9, F8, F7, F6, F5, F4, pShown, pCmpT, pBack, pBackR, pProj, pProjR, pCmpR, pKeyR, pOf, pOfR, pSameT, ha, has, hbs, hal, hal2, hbl2, hx, hc, hsame, hbk, hpr, hbb, hbar, hnil, hlim, aextract, ti22, astrop, aunop]; omega))); clear hA hB A B) | (refine hB ?_; clear hA hB A B))
      | refine WP.sr fun k hk => ?_ | refine WP.r fun k hk => ?_ | refine WP.sd _ rfl fun k hk => ?_ | refine WP.d _ rfl fun k hk => ?_
      | (refine WP.cc fun A B hA hB => ?_; simp [G8, G7, G6, G5, G4, G3, G2, G1, F13, F12, F11, F10, F9, F8, F7, F6, F5, F4, pShown, pCmpT, pBack, pBackR, pProj, pProjR, pCmpR, pKeyR, pOf, pOfR, pSameT, ha, has, hbs, hal, hal2, hbl2, hx, hc, hsame, hbk, hpr, hbb, hbar, hnil, hlim, aextract, ti22, astrop, aunop, onB_t, onB_f]; first | (refine hA ?_; clear hA hB A B) | (refine hB ?_; clear hA hB A B) | (refine onB_if (fun h => hA ?_) (fun h => hB ?_) <;> clear hA hB A B))
      | refine WP.q ?_ | refine WP.b ?_)
    simp
  · skip
    repeat' (first
      | refine WP.t ?_ | refine WP.k ?_ | refine WP.e ?_ | refine Qn ?_ | refine Qr ?_ | refine Qe ?_ | refine Bn ?_ | refine Br ?_ | refine Be ?_ | refine Bx (by decide) ?_
      | (refine RS.nl ?_; refine hk _ _ ?_; clear hk k)
      | (refine RS.st fun A B hA hB => ?_; simp [G8, G7, G6, G5, G4, G3, G2, G1, F13, F12, F11, F10, F9, F8, F7, F6, F5, F4, pShown, pCmpT, pBack, pBackR, pProj, pProjR, pCmpR, pKeyR, pOf, pOfR, pSameT, ha, has, hbs, hal, hal2, hbl2, hx, hc, hsame, hbk, hpr, hbb, hbar, hnil, hlim, aextract, ti22, astrop, aunop, hq, onW_t, onW_f, onV_s]; first | (refine hA _ _ _ ?_ ?_; (focus (first | (simp [G8, G7, G6, G5, G4, G3, G2, G1, F13, F12, F11, F10, F9, F8, F7, F6, F5, F4, pShown, pCmpT, pBack, pBackR, pProj, pProjR, pCmpR, pKeyR, pOf, pOfR, pSameT, ha, has, hbs, hal, hal2, hbl2, hx, hc, hsame, hbk, hpr, hbb, hbar, hnil, hlim, aextract, ti22, astrop, aunop, hq]; done) | (simp [G8, G7, G6, G5, G4, G3, G2, G1, F13, F12, F11, F10, F9, F8, F7, F6, F5, F4, pShown, pCmpT, pBack, pBackR, pProj, pProjR, pCmpR, pKeyR, pOf, pOfR, pSameT, ha, has, hbs, hal, hal2, hbl2, hx, hc, hsame, hbk, hpr, hbb, hbar, hnil, hlim, aextract, ti22, astrop, aunop, hq]; omega))); clear hA hB A B) | (refine hB ?_; clear hA hB A B))
      | (refine RQ.nl ?_; refine hk _ _ ?_; clear hk k)
      | (refine RW.nl ?_; refine hk _ _ ?_; clear hk k)
      | (refine RW.st fun A B hA hB => ?_; simp [G8, G7, G6, G5, G4, G3, G2, G1, F13, F12, F11, F10, F9, F8, F7, F6, F5, F4, pShown, pCmpT, pBack, pBackR, pProj, pProjR, pCmpR, pKeyR, pOf, pOfR, pSameT, ha, has, hbs, hal, hal2, hbl2, hx, hc, hsame, hbk, hpr, hbb, hbar, hnil, hlim, aextract, ti22, astrop, aunop, hq, onW_t, onW_f, onV_s]; first | (refine hA _ _ _ ?_ (by first | exact .inl (by decide) | exact .inr (.inl rfl) | exact .inr (.inr rfl)) (by first | exact .inl (by decide) | exact .inr (.inl (by decide)) | exact .inr (.inr fun s2 => by simp [G8, G7, G6, G5, G4, G3, G2, G1, F13, F12, F11, F10, F9, F8, F7, F6, F5, F4, pShown, pCmpT, pBack, pBackR, pProj, pProjR, pCmpR, pKeyR, pOf, pOfR, pSameT, ha, has, hbs, hal, hal2, hbl2, hx, hc, hsame, hbk, hpr, hbb, hbar, hnil, hlim, aextract, ti22, astrop, aunop, hq])) ?_; (focus (first | (simp [G8, G7, G6, G5, G4, G3, G2, G1, F13, F12, F11, F10, F9, F8, F7, F6, F5, F4, pShown, pCmpT, pBack, pBackR, pProj, pProjR, pCmpR, pKeyR, pOf, pOfR, pSameT, ha, has, hbs, hal, hal2, hbl2, hx, hc, hsame, hbk, hpr, hbb, hbar, hnil, hlim, aextract, ti22, astrop, aunop, hq]; done) | (simp [G8, G7, G6, G5, G4, G3, G2, G1, F13, F12, F11, F10, F9, F8, F7, F6, F5, F4, pShown, pCmpT, pBack, pBackR, pProj, pProjR, pCmpR, pKeyR, pOf, pOfR, pSameT, ha, has, hbs, hal, hal2, hbl2, hx, hc, hsame, hbk, hpr, hbb, hbar, hnil, hlim, aextract, ti22, astrop, aunop, hq]; omega))); clear hA hB A B) | (refine hB ?_; clear hA hB A B))
      | (refine RQ.st fun A B hA hB => ?_; simp [G8, G7, G6, G5, G4, G3, G2, G1, F13, F12, F11, F10, F9, F8, F7, F6, F5, F4, pShown, pCmpT, pBack, pBackR, pProj, pProjR, pCmpR, pKeyR, pOf, pOfR, pSameT, ha, has, hbs, hal, hal2, hbl2, hx, hc, hsame, hbk, hpr, hbb, hbar, hnil, hlim, aextract, ti22, astrop, aunop, hq, onW_t, onW_f, onV_s]; first | (refine hA _ _ _ ?_ (by first | exact .inl rfl | exact .inr (by decide)) ?_; (focus (first | (simp [G8, G7, G6, G5, G4, G3, G2, G1, F13, F12, F11, F10, F9, F8, F7, F6, F5, F4, pShown, pCmpT, pBack, pBackR, pProj, pProjR, pCmpR, pKeyR, pOf, pOfR, pSameT, ha, has, hbs, hal, hal2, hbl2, hx, hc, hsame, hbk, hpr, hbb, hbar, hnil, hlim, aextract, ti22, astrop, aunop, hq]; done) | (simp [G8, G7, G6, G5, G4, G3, G2, G1, F13, F12, F11, F10, F9, F8, F7, F6, F5, F4, pShown, pCmpT, pBack, pBackR, pProj, pProjR, pCmpR, pKeyR, pOf, pOfR, pSameT, ha, has, hbs, hal, hal2, hbl2, hx, hc, hsame, hbk, hpr, hbb, hbar, hnil, hlim, aextract, ti22, astrop, aunop, hq]; omega))); clear hA hB A B) | (refine hB ?_; clear hA hB A B))
      | refine WP.sr fun k hk => ?_ | refine WP.r fun k hk => ?_ | refine WP.sd _ rfl fun k hk => ?_ | refine WP.d _ rfl fun k hk => ?_
      | (refine WP.cc fun A B hA hB => ?_; simp [G8, G7, G6, G5, G4, G3, G2, G1, F13, F12, F11, F10, F9, F8, F7, F6, F5, F4, pShown, pCmpT, pBack, pBackR, pProj, pProjR, pCmpR, pKeyR, pOf, pOfR, pSameT, ha, has, hbs, hal, hal2, hbl2, hx, hc, hsame, hbk, hpr, hbb, hbar, hnil, hlim, aextract, ti22, astrop, aunop, hq, onB_t, onB_f]; first | (refine hA ?_; clear hA hB A B) | (refine hB ?_; clear hA hB A B) | (refine onB_if (fun h => hA ?_) (fun h => hB ?_) <;> clear hA hB A B))
      | refine WP.q ?_ | refine WP.b ?_)
    simp
  · have hll : l.length < LIM := by have := len_Vsize l; unfold LIM; omega
    repeat' (first
      | refine WP.t ?_ | refine WP.k ?_ | refine WP.e ?_ | refine Qn ?_ | refine Qr ?_ | refine Qe ?_ | refine Bn ?_ | refine Br ?_ | refine Be ?_ | refine Bx (by decide) ?_
      | (refine RS.nl ?_; refine hk _ _ ?_; clear hk k)
      | (refine RS.st fun A B hA hB => ?_; simp [G8, G7, G6, G5, G4, G3, G2, G1, F13, F12, F11, F10, F9, F8, F7, F6, F5, F4, pShown, pCmpT, pBack, pBackR, pProj, pProjR, pCmpR, pKeyR, pOf, pOfR, pSameT, ha, has, hbs, hal, hal2, hbl2, hx, hc, hsame, hbk, hpr, hbb, hbar, hnil, hlim, aextract, ti22, astrop, aunop, hl1, hll, onW_t, onW_f, onV_s]; first | (refine hA _ _ _ ?_ ?_; (focus (first | (simp [G8, G7, G6, G5, G4, G3, G2, G1, F13, F12, F11, F10, F9, F8, F7, F6, F5, F4, pShown, pCmpT, pBack, pBackR, pProj, pProjR, pCmpR, pKeyR, pOf, pOfR, pSameT, ha, has, hbs, hal, hal2, hbl2, hx, hc, hsame, hbk, hpr, hbb, hbar, hnil, hlim, aextract, ti22, astrop, aunop, hl1, hll]; done) | (simp [G8, G7, G6, G5, G4, G3, G2, G1, F13, F12, F11, F10, F9, F8, F7, F6, F5, F4, pShown, pCmpT, pBack, pBackR, pProj, pProjR, pCmpR, pKeyR, pOf, pOfR, pSameT, ha, has, hbs, hal, hal2, hbl2, hx, hc, hsame, hbk, hpr, hbb, hbar, hnil, hlim, aextract, ti22, astrop, aunop, hl1, hll]; omega))); clear hA hB A B) | (refine hB ?_; clear hA hB A B))
      | (refine RQ.nl ?_; refine hk _ _ ?_; clear hk k)
      | (refine RW.nl ?_; refine hk _ _ ?_; clear hk k)
      | (refine RW.st fun A B hA hB => ?_; simp [G8, G7, G6, G5, G4, G3, G2, G1, F13, F12, F11, F10, F9, F8, F7, F6, F5, F4, pShown, pCmpT, pBack, pBackR, pProj, pProjR, pCmpR, pKeyR, pOf, pOfR, pSameT, ha, has, hbs, hal, hal2, hbl2, hx, hc, hsame, hbk, hpr, hbb, hbar, hnil, hlim, aextract, ti22, astrop, aunop, hl1, hll, onW_t, onW_f, onV_s]; first | (refine hA _ _ _ ?_ (by first | exact .inl (by decide) | exact .inr (.inl rfl) | exact .inr (.inr rfl)) (by first | exact .inl (by decide) | exact .inr (.inl (by decide)) | exact .inr (.inr fun s2 => by simp [G8, G7, G6, G5, G4, G3, G2, G1, F13, F12, F11, F10, F9, F8, F7, F6, F5, F4, pShown, pCmpT, pBack, pBackR, pProj, pProjR, pCmpR, pKeyR, pOf, pOfR, pSameT, ha, has, hbs, hal, hal2, hbl2, hx, hc, hsame, hbk, hpr, hbb, hbar, hnil, hlim, aextract, ti22, astrop, aunop, hl1, hll])) ?_; (focus (first | (simp [G8, G7, G6, G5, G4, G3, G2, G1, F13, F12, F11, F10, F9, F8, F7, F6, F5, F4, pShown, pCmpT, pBack, pBackR, pProj, pProjR, pCmpR, pKeyR, pOf, pOfR, pSameT, ha, has, hbs, hal, hal2, hbl2, hx, hc, hsame, hbk, hpr, hbb, hbar, hnil, hlim, aextract, ti22, astrop, aunop, hl1, hll]; done) | (simp [G8, G7, G6, G5, G4, G3, G2, G1, F13, F12, F11, F10, F9, F8, F7, F6, F5, F4, pShown, pCmpT, pBack, pBackR, pProj, pProjR, pCmpR, pKeyR, pOf, pOfR, pSameT, ha, has, hbs, hal, hal2, hbl2, hx, hc, hsame, hbk, hpr, hbb, hbar, hnil, hlim, aextract, ti22, astrop, aunop, hl1, hll]; omega))); clear hA hB A B) | (refine hB ?_; clear hA hB A B))
      | (refine RQ.st fun A B hA hB => ?_; simp [G8, G7, G6, G5, G4, G3, G2, G1, F13, F12, F11, F10, F9, F8, F7, F6, F5, F4, pShown, pCmpT, pBack, pBackR, pProj, pProjR, pCmpR, pKeyR, pOf, pOfR, pSameT, ha, has, hbs, hal, hal2, hbl2, hx, hc, hsame, hbk, hpr, hbb, hbar, hnil, hlim, aextract, ti22, astrop, aunop, hl1, hll, onW_t, onW_f, onV_s]; first | (refine hA _ _ _ ?_ (by first | exact .inl rfl | exact .inr (by decide)) ?_; (focus (first | (simp [G8, G7, G6, G5, G4, G3, G2, G1, F13, F12, F11, F10, F9, F8, F7, F6, F5, F4, pShown, pCmpT, pBack, pBackR, pProj, pProjR, pCmpR, pKeyR, pOf, pOfR, pSameT, ha, has, hbs, hal, hal2, hbl2, hx, hc, hsame, hbk, hpr, hbb, hbar, hnil, hlim, aextract, ti22, astrop, aunop, hl1, hll]; done) | (simp [G8, G7, G6, G5, G4, G3, G2, G1, F13, F12, F11, F10, F9, F8, F7, F6, F5, F4, pShown, pCmpT, pBack, pBackR, pProj, pProjR, pCmpR, pKeyR, pOf, pOfR, pSameT, ha, has, hbs, hal, hal2, hbl2, hx, hc, hsame, hbk, hpr, hbb, hbar, hnil, hlim, aextract, ti22, astrop, aunop, hl1, hll]; omega))); clear hA hB A B) | (refine hB ?_; clear hA hB A B))
      | refine WP.sr fun k hk => ?_ | refine WP.r fun k hk => ?_ | refine WP.sd _ rfl fun k hk => ?_ | refine WP.d _ rfl fun k hk => ?_
      | (refine WP.cc fun A B hA hB => ?_; simp [G8, G7, G6, G5, G4, G3, G2, G1, F13, F12, F11, F10, F9, F8, F7, F6, F5, F4, pShown, pCmpT, pBack, pBackR, pProj, pProjR, pCmpR, pKeyR, pOf, pOfR, pSameT, ha, has, hbs, hal, hal2, hbl2, hx, hc, hsame, hbk, hpr, hbb, hbar, hnil, hlim, aextract, ti22, astrop, aunop, hl1, hll, onB_t, onB_f]; first | (refine hA ?_; clear hA hB A B) | (refine hB ?_; clear hA hB A B) | (refine onB_if (fun h => hA ?_) (fun h => hB ?_) <;> clear hA hB A B))
      | refine WP.q ?_ | refine WP.b ?_)
    simp
  · have hll : l.length < LIM := by have := len_Vsize l; unfold LIM; omega
    repeat' (first
      | refine WP.t ?_ | refine WP.k ?_ | refine WP.e ?_ | refine Qn ?_ | refine Qr ?_ | refine Qe ?_ | refine Bn ?_ | refine Br ?_ | refine Be ?_ | refine Bx (by decide) ?_
      | (refine RS.nl ?_; refine hk _ _ ?_; clear hk k)
      | (refine RS.st fun A B hA hB => ?_; simp [G8, G7, G6, G5, G4, G3, G2, G1, F13, F12, F11, F10, F9, F8, F7, F6, F5, F4, pShown, pCmpT, pBack, pBackR, pProj, pProjR, pCmpR, pKeyR, pOf, pOfR, pSameT, ha, has, hbs, hal, hal2, hbl2, hx, hc, hsame, hbk, hpr, hbb, hbar, hnil, hlim, aextract, ti22, astrop, aunop, hq, hl1, hll, onW_t, onW_f, onV_s]; first | (refine hA _ _ _ ?_ ?_; (focus (first | (simp [G8, G7, G6, G5, G4, G3, G2, G1, F13, F12, F11, F10, F9, F8, F7, F6, F5, F4, pShown, pCmpT, pBack, pBackR, pProj, pProjR, pCmpR, pKeyR, pOf, pOfR, pSameT, ha, has, hbs, hal, hal2, hbl2, hx, hc, hsame, hbk, hpr, hbb, hbar, hnil, hlim, aextract, ti22, astrop, aunop, hq, hl1, hll]; done) | (simp [G8, G7, G6, G5, G4, G3, G2, G1, F13, F12, F11, F10, F9, F8, F7, F6, F5, F4, pShown, pCmpT, pBack, pBackR, pProj, pProjR, pCmpR, pKeyR, pOf, pOfR, pSameT, ha, has, hbs, hal, hal2, hbl2, hx, hc, hsame, hbk, hpr, hbb, hbar, hnil, hlim, aextract, ti22, astrop, aunop, hq, hl1, hll]; omega))); clear hA hB A B) | (refine hB ?_; clear hA hB A B))
      | (refine RQ.nl ?_; refine hk _ _ ?_; clear hk k)
      | (refine RW.nl ?_; refine hk _ _ ?_; clear hk k)
      | (refine RW.st fun A B hA hB => ?_; simp [G8, G7, G6, G5, G4, G3, G2, G1, F13, F12, F11, F10, F9, F8, F7, F6, F5, F4, pShown, pCmpT, pBack, pBackR, pProj, pProjR, pCmpR, pKeyR, pOf, pOfR, pSameT, ha, has, hbs, hal, hal2, hbl2, hx, hc, hsame, hbk, hpr, hbb, hbar, hnil, hlim, aextract, ti22, astrop, aunop, hq, hl1, hll, onW_t, onW_f, onV_s]; first | (refine hA _ _ _ ?_ (by first | exact .inl (by decide) | exact .inr (.inl rfl) | exact .inr (.inr rfl)) (by first | exact .inl (by decide) | exact .inr (.inl (by decide)) | exact .inr (.inr fun s2 => by simp [G8, G7, G6, G5, G4, G3, G2, G1, F13, F12, F11, F10, F9, F8, F7, F6, F5, F4, pShown, pCmpT, pBack, pBackR, pProj, pProjR, pCmpR, pKeyR, pOf, pOfR, pSameT, ha, has, hbs, hal, hal2, hbl2, hx, hc, hsame, hbk, hpr, hbb, hbar, hnil, hlim, aextract, ti22, astrop, aunop, hq, hl1, hll])) ?_; (focus (first | (simp [G8, G7, G6, G5, G4, G3, G2, G1, F13, F12, F11, F10, F9, F8, F7, F6, F5, F4, pShown, pCmpT, pBack, pBackR, pProj, pProjR, pCmpR, pKeyR, pOf, pOfR, pSameT, ha, has, hbs, hal, hal2, hbl2, hx, hc, hsame, hbk, hpr, hbb, hbar, hnil, hlim, aextract, ti22, astrop, aunop, hq, hl1, hll]; done) | (simp [G8, G7, G6, G5, G4, G3, G2, G1, F13, F12, F11, F10, F9, F8, F7, F6, F5, F4, pShown, pCmpT, pBack, pBackR, pProj, pProjR, pCmpR, pKeyR, pOf, pOfR, pSameT, ha, has, hbs, hal, hal2, hbl2, hx, hc, hsame, hbk, hpr, hbb, hbar, hnil, hlim, aextract, ti22, astrop, aunop, hq, hl1, hll]; omega))); clear hA hB A B) | (refine hB ?_; clear hA hB A B))
      | (refine RQ.st fun A B hA hB => ?_; simp [G8, G7, G6, G5, G4, G3, G2, G1, F13, F12, F11, F10, F9, F8, F7, F6, F5, F4, pShown, pCmpT, pBack, pBackR, pProj, pProjR, pCmpR, pKeyR, pOf, pOfR, pSameT, ha, has, hbs, hal, hal2, hbl2, hx, hc, hsame, hbk, hpr, hbb, hbar, hnil, hlim, aextract, ti22, astrop, aunop, hq, hl1, hll, onW_t, onW_f, onV_s]; first | (refine hA _ _ _ ?_ (by first | exact .inl rfl | exact .inr (by decide)) ?_; (focus (first | (simp [G8, G7, G6, G5, G4, G3, G2, G1, F13, F12, F11, F10, F9, F8, F7, F6, F5, F4, pShown, pCmpT, pBack, pBackR, pProj, pProjR, pCmpR, pKeyR, pOf, pOfR, pSameT, ha, has, hbs, hal, hal2, hbl2, hx, hc, hsame, hbk, hpr, hbb, hbar, hnil, hlim, aextract, ti22, astrop, aunop, hq, hl1, hll]; done) | (simp [G8, G7, G6, G5, G4, G3, G2, G1, F13, F12, F11, F10, F9, F8, F7, F6, F5, F4, pShown, pCmpT, pBack, pBackR, pProj, pProjR, pCmpR, pKeyR, pOf, pOfR, pSameT, ha, has, hbs, hal, hal2, hbl2, hx, hc, hsame, hbk, hpr, hbb, hbar, hnil, hlim, aextract, ti22, astrop, aunop, hq, hl1, hll]; omega))); clear hA hB A B) | (refine hB ?_; clear hA hB A B))
      | refine WP.sr fun k hk => ?_ | refine WP.r fun k hk => ?_ | refine WP.sd _ rfl fun k hk => ?_ | refine WP.d _ rfl fun k hk => ?_
      | (refine WP.cc fun A B hA hB => ?_; simp [G8, G7, G6, G5, G4, G3, G2, G1, F13, F12, F11, F10, F9, F8, F7, F6, F5, F4, pShown, pCmpT, pBack, pBackR, pProj, pProjR, pCmpR, pKeyR, pOf, pOfR, pSameT, ha, has, hbs, hal, hal2, hbl2, hx, hc, hsame, hbk, hpr, hbb, hbar, hnil, hlim, aextract, ti22, astrop, aunop, hq, hl1, hll, onB_t, onB_f]; first | (refine hA ?_; clear hA hB A B) | (refine hB ?_; clear hA hB A B) | (refine onB_if (fun h => hA ?_) (fun h => hB ?_) <;> clear hA hB A B))
      | refine WP.q ?_ | refine WP.b ?_)
    simp
end
end Go.Am
