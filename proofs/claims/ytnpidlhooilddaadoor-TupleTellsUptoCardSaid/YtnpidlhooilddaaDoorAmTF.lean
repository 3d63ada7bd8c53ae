/- Part of the proof: abstract values over the given model of Go (T16, T17). Conditions: none of its own; see the statement in the seat's Rows text. -/
import Derived.Test.YtnpidlhooilddaaDoorAmTB
import Derived.Test.YtnpidlhooilddaaDoorAmPb
import Derived.Test.YtnpidlhooilddaaDoorAmTE
set_option linter.unusedSimpArgs false
set_option linter.unusedVariables false
set_option linter.unusedSectionVars false
namespace Go.Am
open Go.Proofs
section
variable {K : Nat} {gw : World} {s : St}
attribute [local simp] RS_cons' RS_nil RQ_nil RQ_cons' awanted xop zOf zrow aop ev T0 Slots.put Slots.set Slots.get awr WOk AV.may ofConst abinop aint isConst St.get_push St.get_put St.live AV.fit AV.cells AV.one fieldOf afieldAddr aload ofCells astore splice May eqres env_ti FinP ares aresL ares1 Fns.addP Fns.add
def partA (x : List UInt8) : AV := .tup [.agg (partS x).1.cs, .str (partS x).2.1, .bool (partS x).2.2]
theorem ti57 : tiOf Tryd.prog 57 = some ⟨1, 16, false, [.nilIface], .interface #[("Error", 61)], false, false⟩ := by kernel_rfl
set_option maxHeartbeats 4000000 in
theorem ft38 (hK : 3 < K) (hT : Tens gw) (hE : Errs gw) (x : List UInt8) (hx : x ≠ []) (hl : x.length ≤ 100000000) : FT (env K gw) NoW 38 [.str x] s (partA x) s := by
  refine FT.pure (fn := Tryd.f38) (G1_ok hK hT hE) mixed Tryd.func38 (by kernel_rfl) (by rfl) rfl rfl (by simp) rfl fun μ w => ?_
  have hx1 : 1 ≤ x.length := List.length_pos_iff.2 hx
  have hxi : (1 : Int) ≤ (x.length : Int) := by omega
  have htl : List.take (x.length - 1) x.tail = x.tail := by rw [← List.length_tail, List.take_length]
  have htl2 : x.length - 1 ≤ 100000000 := by omega
  have hcl := cut_len x.tail
  have hpx : partS x = partS x := rfl
  unfold partA
  rw [List.length_tail] at hcl
  conv at hpx => rhs; unfold partS
  simp only [List.drop_one] at hpx
  generalize hcut : Lib.cut x.tail [58] = c at *
  obtain ⟨c1, c2, cb⟩ := c
  simp only at hcl hpx
  have hl2 : c1.length ≤ 100000000 := by omega
  have hl3 : c2.length ≤ 100000000 := by omega
  cases ha : Lib.atoiAll c1 with
  | range =>
    simp only [ha] at hpx
    cases cb
    all_goals
      rw [hpx]
      repeat' (first
        | refine WP.t ?_ | refine WP.k ?_ | refine WP.e ?_ | refine Qn ?_ | refine Qr ?_ | refine Qe ?_ | refine Bn ?_ | refine Br ?_ | refine Be ?_ | refine Bx (by decide) ?_
        | (refine RS.nl ?_; refine hk _ _ ?_; clear hk k)
        | (refine RS.st fun A B hA hB => ?_; simp [G1, pCut, pAtoi, pParse, hxi, htl, htl2, hl, hl2, hl3, hcut, ha, abound, asliceOk, aslice, isStrD, ti9, ti34, ti4, ti2, ti3, ti57, aextract, aunop, abuild, afill, placesOf, abuiltin, alen, alenOk, astrop, aeq, F10, F11, F12, F13, pSym, pInt, onW_t, onW_f, onV_s]; first | (refine hA _ _ _ ?_ ?_; (focus (first | (simp [G1, pCut, pAtoi, pParse, hxi, htl, htl2, hl, hl2, hl3, hcut, ha, abound, asliceOk, aslice, isStrD, ti9, ti34, ti4, ti2, ti3, ti57, aextract, aunop, abuild, afill, placesOf, abuiltin, alen, alenOk, astrop, aeq, F10, F11, F12, F13, pSym, pInt]; done) | (simp [G1, pCut, pAtoi, pParse, hxi, htl, htl2, hl, hl2, hl3, hcut, ha, abound, asliceOk, aslice, isStrD, ti9, ti34, ti4, ti2, ti3, ti57, aextract, aunop, abuild, afill, placesOf, abuiltin, alen, alenOk, astrop, aeq, F10, F11, F12, F13, pSym, pInt]; omega))); clear hA hB A B) | (refine hB ?_; clear hA hB A B))
        | (refine RQ.nl ?_; refine hk _ _ ?_; clear hk k)
        | (refine RW.nl ?_; refine hk _ _ ?_; clear hk k)
        | (refine RW.st fun A B hA hB => ?_; simp [G1, pCut, pAtoi, pParse, hxi, htl, htl2, hl, hl2, hl3, hcut, ha, abound, asliceOk, aslice, isStrD, ti9, ti34, ti4, ti2, ti3, ti57, aextract, aunop, abuild, afill, placesOf, abuiltin, alen, alenOk, astrop, aeq, F10, F11, F12, F13, pSym, pInt, onW_t, onW_f, onV_s]; first | (refine hA _ _ _ ?_ (by first | exact .inl (by decide) | exact .inr (.inl rfl) | exact .inr (.inr rfl)) (by first | exact .inl (by decide) | exact .inr (.inl (by decide)) | exact .inr (.inr fun s2 => by simp [G1, pCut, pAtoi, pParse, hxi, htl, htl2, hl, hl2, hl3, hcut, ha, abound, asliceOk, aslice, isStrD, ti9, ti34, ti4, ti2, ti3, ti57, aextract, aunop, abuild, afill, placesOf, abuiltin, alen, alenOk, astrop, aeq, F10, F11, F12, F13, pSym, pInt])) ?_; (focus (first | (simp [G1, pCut, pAtoi, pParse, hxi, htl, htl2, hl, hl2, hl3, hcut, ha, abound, asliceOk, aslice, isStrD, ti9, ti34, ti4, ti2, ti3, ti57, aextract, aunop, abuild, afill, placesOf, abuiltin, alen, alenOk, astrop, aeq, F10, F11, F12, F13, pSym, pInt]; done) | (simp [G1, pCut, pAtoi, pParse, hxi, htl, htl2, hl, hl2, hl3, hcut, ha, abound, asliceOk, aslice, isStrD, ti9, ti34, ti4, ti2, ti3, ti57, aextract, aunop, abuild, afill, placesOf, abuiltin, alen, alenOk, astrop, aeq, F10, F11, F12, F13, pSym, pInt]; omega))); clear hA hB A B) | (refine hB ?_; clear hA hB A B))
        | (refine RQ.st fun A B hA hB => ?_; simp [G1, pCut, pAtoi, pParse, hxi, htl, htl2, hl, hl2, hl3, hcut, ha, abound, asliceOk, aslice, isStrD, ti9, ti34, ti4, ti2, ti3, ti57, aextract, aunop, abuild, afill, placesOf, abuiltin, alen, alenOk, astrop, aeq, F10, F11, F12, F13, pSym, pInt, onW_t, onW_f, onV_s]; first | (refine hA _ _ _ ?_ (by first | exact .inl rfl | exact .inr (by decide)) ?_; (focus (first | (simp [G1, pCut, pAtoi, pParse, hxi, htl, htl2, hl, hl2, hl3, hcut, ha, abound, asliceOk, aslice, isStrD, ti9, ti34, ti4, ti2, ti3, ti57, aextract, aunop, abuild, afill, placesOf, abuiltin, alen, alenOk, astrop, aeq, F10, F11, F12, F13, pSym, pInt]; done) | (simp [G1, pCut, pAtoi, pParse, hxi, htl, htl2, hl, hl2, hl3, hcut, ha, abound, asliceOk, aslice, isStrD, ti9, ti34, ti4, ti2, ti3, ti57, aextract, aunop, abuild, afill, placesOf, abuiltin, alen, alenOk, astrop, aeq, F10, F11, F12, F13, pSym, pInt]; omega))); clear hA hB A B) | (refine hB ?_; clear hA hB A B))
        | refine WP.sr fun k hk => ?_ | refine WP.r fun k hk => ?_ | refine WP.sd _ rfl fun k hk => ?_ | refine WP.d _ rfl fun k hk => ?_
        | (refine WP.cc fun A B hA hB => ?_; simp [G1, pCut, pAtoi, pParse, hxi, htl, htl2, hl, hl2, hl3, hcut, ha, abound, asliceOk, aslice, isStrD, ti9, ti34, ti4, ti2, ti3, ti57, aextract, aunop, abuild, afill, placesOf, abuiltin, alen, alenOk, astrop, aeq, F10, F11, F12, F13, pSym, pInt, onB_t, onB_f]; first | (refine hA ?_; clear hA hB A B) | (refine hB ?_; clear hA hB A B) | (refine onB_if (fun h => hA ?_) (fun h => hB ?_) <;> clear hA hB A B))
        | refine WP.q ?_ | refine WP.b ?_)
      simp [ti34, V.cs]
  | ok n =>
    simp only [ha] at hpx
    cases cb with
    | false =>
      rw [hpx]
      repeat' (first
        | refine WP.t ?_ | refine WP.k ?_ | refine WP.e ?_ | refine Qn ?_ | refine Qr ?_ | refine Qe ?_ | refine Bn ?_ | refine Br ?_ | refine Be ?_ | refine Bx (by decide) ?_
        | (refine RS.nl ?_; refine hk _ _ ?_; clear hk k)
        | (refine RS.st fun A B hA hB => ?_; simp [G1, pCut, pAtoi, pParse, hxi, htl, htl2, hl, hl2, hl3, hcut, ha, abound, asliceOk, aslice, isStrD, ti9, ti34, ti4, ti2, ti3, ti57, aextract, aunop, abuild, afill, placesOf, abuiltin, alen, alenOk, astrop, aeq, F10, F11, F12, F13, pSym, pInt, onW_t, onW_f, onV_s]; first | (refine hA _ _ _ ?_ ?_; (focus (first | (simp [G1, pCut, pAtoi, pParse, hxi, htl, htl2, hl, hl2, hl3, hcut, ha, abound, asliceOk, aslice, isStrD, ti9, ti34, ti4, ti2, ti3, ti57, aextract, aunop, abuild, afill, placesOf, abuiltin, alen, alenOk, astrop, aeq, F10, F11, F12, F13, pSym, pInt]; done) | (simp [G1, pCut, pAtoi, pParse, hxi, htl, htl2, hl, hl2, hl3, hcut, ha, abound, asliceOk, aslice, isStrD, ti9, ti34, ti4, ti2, ti3, ti57, aextract, aunop, abuild, afill, placesOf, abuiltin, alen, alenOk, astrop, aeq, F10, F11, F12, F13, pSym, pInt]; omega))); clear hA hB A B) | (refine hB ?_; clear hA hB A B))
        | (refine RQ.nl ?_; refine hk _ _ ?_; clear hk k)
        | (refine RW.nl ?_; refine hk _ _ ?_; clear hk k)
        | (refine RW.st fun A B hA hB => ?_; simp [G1, pCut, pAtoi, pParse, hxi, htl, htl2, hl, hl2, hl3, hcut, ha, abound, asliceOk, aslice, isStrD, ti9, ti34, ti4, ti2, ti3, ti57, aextract, aunop, abuild, afill, placesOf, abuiltin, alen, alenOk, astrop, aeq, F10, F11, F12, F13, pSym, pInt, onW_t, onW_f, onV_s]; first | (refine hA _ _ _ ?_ (by first | exact .inl (by decide) | exact .inr (.inl rfl) | exact .inr (.inr rfl)) (by first | exact .inl (by decide) | exact .inr (.inl (by decide)) | exact .inr (.inr fun s2 => by simp [G1, pCut, pAtoi, pParse, hxi, htl, htl2, hl, hl2, hl3, hcut, ha, abound, asliceOk, aslice, isStrD, ti9, ti34, ti4, ti2, ti3, ti57, aextract, aunop, abuild, afill, placesOf, abuiltin, alen, alenOk, astrop, aeq, F10, F11, F12, F13, pSym, pInt])) ?_; (focus (first | (simp [G1, pCut, pAtoi, pParse, hxi, htl, htl2, hl, hl2, hl3, hcut, ha, abound, asliceOk, aslice, isStrD, ti9, ti34, ti4, ti2, ti3, ti57, aextract, aunop, abuild, afill, placesOf, abuiltin, alen, alenOk, astrop, aeq, F10, F11, F12, F13, pSym, pInt]; done) | (simp [G1, pCut, pAtoi, pParse, hxi, htl, htl2, hl, hl2, hl3, hcut, ha, abound, asliceOk, aslice, isStrD, ti9, ti34, ti4, ti2, ti3, ti57, aextract, aunop, abuild, afill, placesOf, abuiltin, alen, alenOk, astrop, aeq, F10, F11, F12, F13, pSym, pInt]; omega))); clear hA hB A B) | (refine hB ?_; clear hA hB A B))
        | (refine RQ.st fun A B hA hB => ?_; simp [G1, pCut, pAtoi, pParse, hxi, htl, htl2, hl, hl2, hl3, hcut, ha, abound, asliceOk, aslice, isStrD, ti9, ti34, ti4, ti2, ti3, ti57, aextract, aunop, abuild, afill, placesOf, abuiltin, alen, alenOk, astrop, aeq, F10, F11, F12, F13, pSym, pInt, onW_t, onW_f, onV_s]; first | (refine hA _ _ _ ?_ (by first | exact .inl rfl | exact .inr (by decide)) ?_; (focus (first | (simp [G1, pCut, pAtoi, pParse, hxi, htl, htl2, hl, hl2, hl3, hcut, ha, abound, asliceOk, aslice, isStrD, ti9, ti34, ti4, ti2, ti3, ti57, aextract, aunop, abuild, afill, placesOf, abuiltin, alen, alenOk, astrop, aeq, F10, F11, F12, F13, pSym, pInt]; done) | (simp [G1, pCut, pAtoi, pParse, hxi, htl, htl2, hl, hl2, hl3, hcut, ha, abound, asliceOk, aslice, isStrD, ti9, ti34, ti4, ti2, ti3, ti57, aextract, aunop, abuild, afill, placesOf, abuiltin, alen, alenOk, astrop, aeq, F10, F11, F12, F13, pSym, pInt]; omega))); clear hA hB A B) | (refine hB ?_; clear hA hB A B))
        | refine WP.sr fun k hk => ?_ | refine WP.r fun k hk => ?_ | refine WP.sd _ rfl fun k hk => ?_ | refine WP.d _ rfl fun k hk => ?_
        | (refine WP.cc fun A B hA hB => ?_; simp [G1, pCut, pAtoi, pParse, hxi, htl, htl2, hl, hl2, hl3, hcut, ha, abound, asliceOk, aslice, isStrD, ti9, ti34, ti4, ti2, ti3, ti57, aextract, aunop, abuild, afill, placesOf, abuiltin, alen, alenOk, astrop, aeq, F10, F11, F12, F13, pSym, pInt, onB_t, onB_f]; first | (refine hA ?_; clear hA hB A B) | (refine hB ?_; clear hA hB A B) | (refine onB_if (fun h => hA ?_) (fun h => hB ?_) <;> clear hA hB A B))
        | refine WP.q ?_ | refine WP.b ?_)
      simp [ti34, V.cs]
    | true =>
      simp only at hpx
      by_cases hn : n < 0
      · rw [if_pos (.inl hn)] at hpx
        rw [hpx]
        repeat' (first
          | refine WP.t ?_ | refine WP.k ?_ | refine WP.e ?_ | refine Qn ?_ | refine Qr ?_ | refine Qe ?_ | refine Bn ?_ | refine Br ?_ | refine Be ?_ | refine Bx (by decide) ?_
          | (refine RS.nl ?_; refine hk _ _ ?_; clear hk k)
          | (refine RS.st fun A B hA hB => ?_; simp [G1, pCut, pAtoi, pParse, hxi, htl, htl2, hl, hl2, hl3, hcut, ha, abound, asliceOk, aslice, isStrD, ti9, ti34, ti4, ti2, ti3, ti57, aextract, aunop, abuild, afill, placesOf, abuiltin, alen, alenOk, astrop, aeq, F10, F11, F12, F13, pSym, pInt, hn, onW_t, onW_f, onV_s]; first | (refine hA _ _ _ ?_ ?_; (focus (first | (simp [G1, pCut, pAtoi, pParse, hxi, htl, htl2, hl, hl2, hl3, hcut, ha, abound, asliceOk, aslice, isStrD, ti9, ti34, ti4, ti2, ti3, ti57, aextract, aunop, abuild, afill, placesOf, abuiltin, alen, alenOk, astrop, aeq, F10, F11, F12, F13, pSym, pInt, hn]; done) | (simp [G1, pCut, pAtoi, pParse, hxi, htl, htl2, hl, hl2, hl3, hcut, ha, abound, asliceOk, aslice, isStrD, ti9, ti34, ti4, ti2, ti3, ti57, aextract, aunop, abuild, afill, placesOf, abuiltin, alen, alenOk, astrop, aeq, F10, F11, F12, F13, pSym, pInt, hn]; omega))); clear hA hB A B) | (refine hB ?_; clear hA hB A B))
          | (refine RQ.nl ?_; refine hk _ _ ?_; clear hk k)
          | (refine RW.nl ?_; refine hk _ _ ?_; clear hk k)
          | (refine RW.st fun A B hA hB => ?_; simp [G1, pCut, pAtoi, pParse, hxi, htl, htl2, hl, hl2, hl3, hcut, ha, abound, asliceOk, aslice, isStrD, ti9, ti34, ti4, ti2, ti3, ti57, aextract, aunop, abuild, afill, placesOf, abuiltin, alen, alenOk, astrop, aeq, F10, F11, F12, F13, pSym, pInt, hn, onW_t, onW_f, onV_s]; first | (refine hA _ _ _ ?_ (by first | exact .inl (by decide) | exact .inr (.inl rfl) | exact .inr (.inr rfl)) (by first | exact .inl (by decide) | exact .inr (.inl (by decide)) | exact .inr (.inr fun s2 => by simp [G1, pCut, pAtoi, pParse, hxi, htl, htl2, hl, hl2, hl3, hcut, ha, abound, asliceOk, aslice, isStrD, ti9, ti34, ti4, ti2, ti3, ti57, aextract, aunop, abuild, afill, placesOf, abuiltin, alen, alenOk, astrop, aeq, F10, F11, F12, F13, pSym, pInt, hn])) ?_; (focus (first | (simp [G1, pCut, pAtoi, pParse, hxi, htl, htl2, hl, hl2, hl3, hcut, ha, abound, asliceOk, aslice, isStrD, ti9, ti34, ti4, ti2, ti3, ti57, aextract, aunop, abuild, afill, placesOf, abuiltin, alen, alenOk, astrop, aeq, F10, F11, F12, F13, pSym, pInt, hn]; done) | (simp [G1, pCut, pAtoi, pParse, hxi, htl, htl2, hl, hl2, hl3, hcut, ha, abound, asliceOk, aslice, isStrD, ti9, ti34, ti4, ti2, ti3, ti57, aextract, aunop, abuild, afill, placesOf, abuiltin, alen, alenOk, astrop, aeq, F10, F11, F12, F13, pSym, pInt, hn]; omega))); clear hA hB A B) | (refine hB ?_; clear hA hB A B))
          | (refine RQ.st fun A B hA hB => ?_; simp [G1, pCut, pAtoi, pParse, hxi, htl, htl2, hl, hl2, hl3, hcut, ha, abound, asliceOk, aslice, isStrD, ti9, ti34, ti4, ti2, ti3, ti57, aextract, aunop, abuild, afill, placesOf, abuiltin, alen, alenOk, astrop, aeq, F10, F11, F12, F13, pSym, pInt, hn, onW_t, onW_f, onV_s]; first | (refine hA _ _ _ ?_ (by first | exact .inl rfl | exact .inr (by decide)) ?_; (focus (first | (simp [G1, pCut, pAtoi, pParse, hxi, htl, htl2, hl, hl2, hl3, hcut, ha, abound, asliceOk, aslice, isStrD, ti9, ti34, ti4, ti2, ti3, ti57, aextract, aunop, abuild, afill, placesOf, abuiltin, alen, alenOk, astrop, aeq, F10, F11, F12, F13, pSym, pInt, hn]; done) | (simp [G1, pCut, pAtoi, pParse, hxi, htl, htl2, hl, hl2, hl3, hcut, ha, abound, asliceOk, aslice, isStrD, ti9, ti34, ti4, ti2, ti3, ti57, aextract, aunop, abuild, afill, placesOf, abuiltin, alen, alenOk, astrop, aeq, F10, F11, F12, F13, pSym, pInt, hn]; omega))); clear hA hB A B) | (refine hB ?_; clear hA hB A B))
          | refine WP.sr fun k hk => ?_ | refine WP.r fun k hk => ?_ | refine WP.sd _ rfl fun k hk => ?_ | refine WP.d _ rfl fun k hk => ?_
          | (refine WP.cc fun A B hA hB => ?_; simp [G1, pCut, pAtoi, pParse, hxi, htl, htl2, hl, hl2, hl3, hcut, ha, abound, asliceOk, aslice, isStrD, ti9, ti34, ti4, ti2, ti3, ti57, aextract, aunop, abuild, afill, placesOf, abuiltin, alen, alenOk, astrop, aeq, F10, F11, F12, F13, pSym, pInt, hn, onB_t, onB_f]; first | (refine hA ?_; clear hA hB A B) | (refine hB ?_; clear hA hB A B) | (refine onB_if (fun h => hA ?_) (fun h => hB ?_) <;> clear hA hB A B))
          | refine WP.q ?_ | refine WP.b ?_)
        simp [ti34, V.cs]
      · by_cases hn2 : (c2.length : Int) < n
        · rw [if_pos (.inr hn2)] at hpx
          rw [hpx]
          repeat' (first
            | refine WP.t ?_ | refine WP.k ?_ | refine WP.e ?_ | refine Qn ?_ | refine Qr ?_ | refine Qe ?_ | refine Bn ?_ | refine Br ?_ | refine Be ?_ | refine Bx (by decide) ?_
            | (refine RS.nl ?_; refine hk _ _ ?_; clear hk k)
            | (refine RS.st fun A B hA hB => ?_; simp [G1, pCut, pAtoi, pParse, hxi, htl, htl2, hl, hl2, hl3, hcut, ha, abound, asliceOk, aslice, isStrD, ti9, ti34, ti4, ti2, ti3, ti57, aextract, aunop, abuild, afill, placesOf, abuiltin, alen, alenOk, astrop, aeq, F10, F11, F12, F13, pSym, pInt, hn, hn2, onW_t, onW_f, onV_s]; first | (refine hA _ _ _ ?_ ?_; (focus (first | (simp [G1, pCut, pAtoi, pParse, hxi, htl, htl2, hl, hl2, hl3, hcut, ha, abound, asliceOk, aslice, isStrD, ti9, ti34, ti4, ti2, ti3, ti57, aextract, aunop, abuild, afill, placesOf, abuiltin, alen, alenOk, astrop, aeq, F10, F11, F12, F13, pSym, pInt, hn, hn2]; done) | (simp [G1, pCut, pAtoi, pParse, hxi, htl, htl2, hl, hl2, hl3, hcut, ha, abound, asliceOk, aslice, isStrD, ti9, ti34, ti4, ti2, ti3, ti57, aextract, aunop, abuild, afill, placesOf, abuiltin, alen, alenOk, astrop, aeq, F10, F11, F12, F13, pSym, pInt, hn, hn2]; omega))); clear hA hB A B) | (refine hB ?_; clear hA hB A B))
            | (refine RQ.nl ?_; refine hk _ _ ?_; clear hk k)
            | (refine RW.nl ?_; refine hk _ _ ?_; clear hk k)
            | (refine RW.st fun A B hA hB => ?_; simp [G1, pCut, pAtoi, pParse, hxi, htl, htl2, hl, hl2, hl3, hcut, ha, abound, asliceOk, aslice, isStrD, ti9, ti34, ti4, ti2, ti3, ti57, aextract, aunop, abuild, afill, placesOf, abuiltin, alen, alenOk, astrop, aeq, F10, F11, F12, F13, pSym, pInt, hn, hn2, onW_t, onW_f, onV_s]; first | (refine hA _ _ _ ?_ (by first | exact .inl (by decide) | exact .inr (.inl rfl) | exact .inr (.inr rfl)) (by first | exact .inl (by decide) | exact .inr (.inl (by decide)) | exact .inr (.inr fun s2 => by simp [G1, pCut, pAtoi, pParse, hxi, htl, htl2, hl, hl2, hl3, hcut, ha, abound, asliceOk, aslice, isStrD, ti9, ti34, ti4, ti2, ti3, ti57, aextract, aunop, abuild, afill, placesOf, abuiltin, alen, alenOk, astrop, aeq, F10, F11, F12, F13, pSym, pInt, hn, hn2])) ?_; (focus (first | (simp [G1, pCut, pAtoi, pParse, hxi, htl, htl2, hl, hl2, hl3, hcut, ha, abound, asliceOk, aslice, isStrD, ti9, ti34, ti4, ti2, ti3, ti57, aextract, aunop, abuild, afill, placesOf, abuiltin, alen, alenOk, astrop, aeq, F10, F11, F12, F13, pSym, pInt, hn, hn2]; done) | (simp [G1, pCut, pAtoi, pParse, hxi, htl, htl2, hl, hl2, hl3, hcut, ha, abound, asliceOk, aslice, isStrD, ti9, ti34, ti4, ti2, ti3, ti57, aextract, aunop, abuild, afill, placesOf, abuiltin, alen, alenOk, astrop, aeq, F10, F11, F12, F13, pSym, pInt, hn, hn2]; omega))); clear hA hB A B) | (refine hB ?_; clear hA hB A B))
            | (refine RQ.st fun A B hA hB => ?_; simp [G1, pCut, pAtoi, pParse, hxi, htl, htl2, hl, hl2, hl3, hcut, ha, abound, asliceOk, aslice, isStrD, ti9, ti34, ti4, ti2, ti3, ti57, aextract, aunop, abuild, afill, placesOf, abuiltin, alen, alenOk, astrop, aeq, F10, F11, F12, F13, pSym, pInt, hn, hn2, onW_t, onW_f, onV_s]; first | (refine hA _ _ _ ?_ (by first | exact .inl rfl | exact .inr (by decide)) ?_; (focus (first | (simp [G1, pCut, pAtoi, pParse, hxi, htl, htl2, hl, hl2, hl3, hcut, ha, abound, asliceOk, aslice, isStrD, ti9, ti34, ti4, ti2, ti3, ti57, aextract, aunop, abuild, afill, placesOf, abuiltin, alen, alenOk, astrop, aeq, F10, F11, F12, F13, pSym, pInt, hn, hn2]; done) | (simp [G1, pCut, pAtoi, pParse, hxi, htl, htl2, hl, hl2, hl3, hcut, ha, abound, asliceOk, aslice, isStrD, ti9, ti34, ti4, ti2, ti3, ti57, aextract, aunop, abuild, afill, placesOf, abuiltin, alen, alenOk, astrop, aeq, F10, F11, F12, F13, pSym, pInt, hn, hn2]; omega))); clear hA hB A B) | (refine hB ?_; clear hA hB A B))
            | refine WP.sr fun k hk => ?_ | refine WP.r fun k hk => ?_ | refine WP.sd _ rfl fun k hk => ?_ | refine WP.d _ rfl fun k hk => ?_
            | (refine WP.cc fun A B hA hB => ?_; simp [G1, pCut, pAtoi, pParse, hxi, htl, htl2, hl, hl2, hl3, hcut, ha, abound, asliceOk, aslice, isStrD, ti9, ti34, ti4, ti2, ti3, ti57, aextract, aunop, abuild, afill, placesOf, abuiltin, alen, alenOk, astrop, aeq, F10, F11, F12, F13, pSym, pInt, hn, hn2, onB_t, onB_f]; first | (refine hA ?_; clear hA hB A B) | (refine hB ?_; clear hA hB A B) | (refine onB_if (fun h => hA ?_) (fun h => hB ?_) <;> clear hA hB A B))
            | refine WP.q ?_ | refine WP.b ?_)
          simp [ti34, V.cs]
        · rw [if_neg (by omega)] at hpx
          have hn3 : 0 ≤ n := by omega
          have hn4 : n ≤ c2.length := by omega
          have hn5 : n.toNat ≤ c2.length := by omega
          have htk : List.take (n.toNat - 0) c2 = c2.take n.toNat := by simp
          have hdl : List.take (c2.length - n.toNat) (c2.drop n.toNat) = c2.drop n.toNat := by rw [← List.length_drop, List.take_length]
          have hn6 : n ≤ 100000000 := by omega
          have hl4 : min n.toNat c2.length ≤ 100000000 := by omega
          by_cases hs1 : x.take 1 = [115]
          · rw [if_pos hs1] at hpx
            rw [hpx]
            repeat' (first
              | refine WP.sw 8 (by decide) (by decide) fun k hk => ?_
              | refine WP.w 8 (by decide) (by decide) fun k hk => ?_
              | refine WP.sw 9 (by decide) (by decide) fun k hk => ?_
              | refine WP.w 9 (by decide) (by decide) fun k hk => ?_
              | refine WP.sw 10 (by decide) (by decide) fun k hk => ?_
              | refine WP.w 10 (by decide) (by decide) fun k hk => ?_
              | refine WP.t ?_ | refine WP.k ?_ | refine WP.e ?_ | refine Qn ?_ | refine Qr ?_ | refine Qe ?_ | refine Bn ?_ | refine Br ?_ | refine Be ?_ | refine Bx (by decide) ?_
              | (refine RS.nl ?_; refine hk _ _ ?_; clear hk k)
              | (refine RS.st fun A B hA hB => ?_; simp [G1, pCut, pAtoi, pParse, hxi, htl, htl2, hl, hl2, hl3, hcut, ha, abound, asliceOk, aslice, isStrD, ti9, ti34, ti4, ti2, ti3, ti57, aextract, aunop, abuild, afill, placesOf, abuiltin, alen, alenOk, astrop, aeq, F10, F11, F12, F13, pSym, pInt, hn, hn2, hn3, hn4, hn5, htk, hdl, hs1, onW_t, onW_f, onV_s]; first | (refine hA _ _ _ ?_ ?_; (focus (first | (simp [G1, pCut, pAtoi, pParse, hxi, htl, htl2, hl, hl2, hl3, hcut, ha, abound, asliceOk, aslice, isStrD, ti9, ti34, ti4, ti2, ti3, ti57, aextract, aunop, abuild, afill, placesOf, abuiltin, alen, alenOk, astrop, aeq, F10, F11, F12, F13, pSym, pInt, hn, hn2, hn3, hn4, hn5, htk, hdl, hs1]; done) | (simp [G1, pCut, pAtoi, pParse, hxi, htl, htl2, hl, hl2, hl3, hcut, ha, abound, asliceOk, aslice, isStrD, ti9, ti34, ti4, ti2, ti3, ti57, aextract, aunop, abuild, afill, placesOf, abuiltin, alen, alenOk, astrop, aeq, F10, F11, F12, F13, pSym, pInt, hn, hn2, hn3, hn4, hn5, htk, hdl, hs1]; omega))); clear hA hB A B) | (refine hB ?_; clear hA hB A B))
              | (refine RQ.nl ?_; refine hk _ _ ?_; clear hk k)
              | (refine RW.nl ?_; refine hk _ _ ?_; clear hk k)
              | (refine RW.st fun A B hA hB => ?_; simp [G1, pCut, pAtoi, pParse, hxi, htl, htl2, hl, hl2, hl3, hcut, ha, abound, asliceOk, aslice, isStrD, ti9, ti34, ti4, ti2, ti3, ti57, aextract, aunop, abuild, afill, placesOf, abuiltin, alen, alenOk, astrop, aeq, F10, F11, F12, F13, pSym, pInt, hn, hn2, hn3, hn4, hn5, htk, hdl, hs1, onW_t, onW_f, onV_s]; first | (refine hA _ _ _ ?_ (by first | exact .inl (by decide) | exact .inr (.inl rfl) | exact .inr (.inr rfl)) (by first | exact .inl (by decide) | exact .inr (.inl (by decide)) | exact .inr (.inr fun s2 => by simp [G1, pCut, pAtoi, pParse, hxi, htl, htl2, hl, hl2, hl3, hcut, ha, abound, asliceOk, aslice, isStrD, ti9, ti34, ti4, ti2, ti3, ti57, aextract, aunop, abuild, afill, placesOf, abuiltin, alen, alenOk, astrop, aeq, F10, F11, F12, F13, pSym, pInt, hn, hn2, hn3, hn4, hn5, htk, hdl, hs1])) ?_; (focus (first | (simp [G1, pCut, pAtoi, pParse, hxi, htl, htl2, hl, hl2, hl3, hcut, ha, abound, asliceOk, aslice, isStrD, ti9, ti34, ti4, ti2, ti3, ti57, aextract, aunop, abuild, afill, placesOf, abuiltin, alen, alenOk, astrop, aeq, F10, F11, F12, F13, pSym, pInt, hn, hn2, hn3, hn4, hn5, htk, hdl, hs1]; done) | (simp [G1, pCut, pAtoi, pParse, hxi, htl, htl2, hl, hl2, hl3, hcut, ha, abound, asliceOk, aslice, isStrD, ti9, ti34, ti4, ti2, ti3, ti57, aextract, aunop, abuild, afill, placesOf, abuiltin, alen, alenOk, astrop, aeq, F10, F11, F12, F13, pSym, pInt, hn, hn2, hn3, hn4, hn5, htk, hdl, hs1]; omega))); clear hA hB A B) | (refine hB ?_; clear hA hB A B))
              | (refine RQ.st fun A B hA hB => ?_; simp [G1, pCut, pAtoi, pParse, hxi, htl, htl2, hl, hl2, hl3, hcut, ha, abound, asliceOk, aslice, isStrD, ti9, ti34, ti4, ti2, ti3, ti57, aextract, aunop, abuild, afill, placesOf, abuiltin, alen, alenOk, astrop, aeq, F10, F11, F12, F13, pSym, pInt, hn, hn2, hn3, hn4, hn5, htk, hdl, hs1, onW_t, onW_f, onV_s]; first | (refine hA _ _ _ ?_ (by first | exact .inl rfl | exact .inr (by decide)) ?_; (focus (first | (simp [G1, pCut, pAtoi, pParse, hxi, htl, htl2, hl, hl2, hl3, hcut, ha, abound, asliceOk, aslice, isStrD, ti9, ti34, ti4, ti2, ti3, ti57, aextract, aunop, abuild, afill, placesOf, abuiltin, alen, alenOk, astrop, aeq, F10, F11, F12, F13, pSym, pInt, hn, hn2, hn3, hn4, hn5, htk, hdl, hs1]; done) | (simp [G1, pCut, pAtoi, pParse, hxi, htl, htl2, hl, hl2, hl3, hcut, ha, abound, asliceOk, aslice, isStrD, ti9, ti34, ti4, ti2, ti3, ti57, aextract, aunop, abuild, afill, placesOf, abuiltin, alen, alenOk, astrop, aeq, F10, F11, F12, F13, pSym, pInt, hn, hn2, hn3, hn4, hn5, htk, hdl, hs1]; omega))); clear hA hB A B) | (refine hB ?_; clear hA hB A B))
              | refine WP.sr fun k hk => ?_ | refine WP.r fun k hk => ?_ | refine WP.sd _ rfl fun k hk => ?_ | refine WP.d _ rfl fun k hk => ?_
              | (refine WP.cc fun A B hA hB => ?_; simp [G1, pCut, pAtoi, pParse, hxi, htl, htl2, hl, hl2, hl3, hcut, ha, abound, asliceOk, aslice, isStrD, ti9, ti34, ti4, ti2, ti3, ti57, aextract, aunop, abuild, afill, placesOf, abuiltin, alen, alenOk, astrop, aeq, F10, F11, F12, F13, pSym, pInt, hn, hn2, hn3, hn4, hn5, htk, hdl, hs1, onB_t, onB_f]; first | (refine hA ?_; clear hA hB A B) | (refine hB ?_; clear hA hB A B) | (refine onB_if (fun h => hA ?_) (fun h => hB ?_) <;> clear hA hB A B))
              | refine WP.q ?_ | refine WP.b ?_)
            simp [ti34, V.cs]
          · rw [if_neg hs1] at hpx
            have hs2 : (List.take 1 x == [115]) = false := by rw [beq_eq_false_iff_ne]; exact hs1
            cases hm : Lib.parseIntB 64 (c2.take n.toNat) with
            | ok m =>
              simp only [hm] at hpx
              rw [hpx]
              repeat' (first
                | refine WP.sw 8 (by decide) (by decide) fun k hk => ?_
                | refine WP.w 8 (by decide) (by decide) fun k hk => ?_
                | refine WP.sw 9 (by decide) (by decide) fun k hk => ?_
                | refine WP.w 9 (by decide) (by decide) fun k hk => ?_
                | refine WP.sw 10 (by decide) (by decide) fun k hk => ?_
                | refine WP.w 10 (by decide) (by decide) fun k hk => ?_
                | refine WP.t ?_ | refine WP.k ?_ | refine WP.e ?_ | refine Qn ?_ | refine Qr ?_ | refine Qe ?_ | refine Bn ?_ | refine Br ?_ | refine Be ?_ | refine Bx (by decide) ?_
                | (refine RS.nl ?_; refine hk _ _ ?_; clear hk k)
                | (refine RS.st fun A B hA hB => ?_; simp [G1, pCut, pAtoi, pParse, hxi, htl, htl2, hl, hl2, hl3, hcut, ha, abound, asliceOk, aslice, isStrD, ti9, ti34, ti4, ti2, ti3, ti57, aextract, aunop, abuild, afill, placesOf, abuiltin, alen, alenOk, astrop, aeq, F10, F11, F12, F13, pSym, pInt, hn, hn2, hn3, hn4, hn5, htk, hdl, hs1, hs2, hm, hl4, hn6, onW_t, onW_f, onV_s]; first | (refine hA _ _ _ ?_ ?_; (focus (first | (simp [G1, pCut, pAtoi, pParse, hxi, htl, htl2, hl, hl2, hl3, hcut, ha, abound, asliceOk, aslice, isStrD, ti9, ti34, ti4, ti2, ti3, ti57, aextract, aunop, abuild, afill, placesOf, abuiltin, alen, alenOk, astrop, aeq, F10, F11, F12, F13, pSym, pInt, hn, hn2, hn3, hn4, hn5, htk, hdl, hs1, hs2, hm, hl4, hn6]; done) | (simp [G1, pCut, pAtoi, pParse, hxi, htl, htl2, hl, hl2, hl3, hcut, ha, abound, asliceOk, aslice, isStrD, ti9, ti34, ti4, ti2, ti3, ti57, aextract, aunop, abuild, afill, placesOf, abuiltin, alen, alenOk, astrop, aeq, F10, F11, F12, F13, pSym, pInt, hn, hn2, hn3, hn4, hn5, htk, hdl, hs1, hs2, hm, hl4, hn6]; omega))); clear hA hB A B) | (refine hB ?_; clear hA hB A B))
                | (refine RQ.nl ?_; refine hk _ _ ?_; clear hk k)
                | (refine RW.nl ?_; refine hk _ _ ?_; clear hk k)
                | (refine RW.st fun A B hA hB => ?_; simp [G1, pCut, pAtoi, pParse, hxi, htl, htl2, hl, hl2, hl3, hcut, ha, abound, asliceOk, aslice, isStrD, ti9, ti34, ti4, ti2, ti3, ti57, aextract, aunop, abuild, afill, placesOf, abuiltin, alen, alenOk, astrop, aeq, F10, F11, F12, F13, pSym, pInt, hn, hn2, hn3, hn4, hn5, htk, hdl, hs1, hs2, hm, hl4, hn6, onW_t, onW_f, onV_s]; first | (refine hA _ _ _ ?_ (by first | exact .inl (by decide) | exact .inr (.inl rfl) | exact .inr (.inr rfl)) (by first | exact .inl (by decide) | exact .inr (.inl (by decide)) | exact .inr (.inr fun s2 => by simp [G1, pCut, pAtoi, pParse, hxi, htl, htl2, hl, hl2, hl3, hcut, ha, abound, asliceOk, aslice, isStrD, ti9, ti34, ti4, ti2, ti3, ti57, aextract, aunop, abuild, afill, placesOf, abuiltin, alen, alenOk, astrop, aeq, F10, F11, F12, F13, pSym, pInt, hn, hn2, hn3, hn4, hn5, htk, hdl, hs1, hs2, hm, hl4, hn6])) ?_; (focus (first | (simp [G1, pCut, pAtoi, pParse, hxi, htl, htl2, hl, hl2, hl3, hcut, ha, abound, asliceOk, aslice, isStrD, ti9, ti34, ti4, ti2, ti3, ti57, aextract, aunop, abuild, afill, placesOf, abuiltin, alen, alenOk, astrop, aeq, F10, F11, F12, F13, pSym, pInt, hn, hn2, hn3, hn4, hn5, htk, hdl, hs1, hs2, hm, hl4, hn6]; done) | (simp [G1, pCut, pAtoi, pParse, hxi, htl, htl2, hl, hl2, hl3, hcut, ha, abound, asliceOk, aslice, isStrD, ti9, ti34, ti4, ti2, ti3, ti57, aextract, aunop, abuild, afill, placesOf, abuiltin, alen, alenOk, astrop, aeq, F10, F11, F12, F13, pSym, pInt, hn, hn2, hn3, hn4, hn5, htk, hdl, hs1, hs2, hm, hl4, hn6]; omega))); clear hA hB A B) | (refine hB ?_; clear hA hB A B))
                | (refine RQ.st fun A B hA hB => ?_; simp [G1, pCut, pAtoi, pParse, hxi, htl, htl2, hl, hl2, hl3, hcut, ha, abound, asliceOk, aslice, isStrD, ti9, ti34, ti4, ti2, ti3, ti57, aextract, aunop, abuild, afill, placesOf, abuiltin, alen, alenOk, astrop, aeq, F10, F11, F12, F13, pSym, pInt, hn, hn2, hn3, hn4, hn5, htk, hdl, hs1, hs2, hm, hl4, hn6, onW_t, onW_f, onV_s]; first | (refine hA _ _ _ ?_ (by first | exact .inl rfl | exact .inr (by decide)) ?_; (focus (first | (simp [G1, pCut, pAtoi, pParse, hxi, htl, htl2, hl, hl2, hl3, hcut, ha, abound, asliceOk, aslice, isStrD, ti9, ti34, ti4, ti2, ti3, ti57, aextract, aunop, abuild, afill, placesOf, abuiltin, alen, alenOk, astrop, aeq, F10, F11, F12, F13, pSym, pInt, hn, hn2, hn3, hn4, hn5, htk, hdl, hs1, hs2, hm, hl4, hn6]; done) | (simp [G1, pCut, pAtoi, pParse, hxi, htl, htl2, hl, hl2, hl3, hcut, ha, abound, asliceOk, aslice, isStrD, ti9, ti34, ti4, ti2, ti3, ti57, aextract, aunop, abuild, afill, placesOf, abuiltin, alen, alenOk, astrop, aeq, F10, F11, F12, F13, pSym, pInt, hn, hn2, hn3, hn4, hn5, htk, hdl, hs1, hs2, hm, hl4, hn6]; omega))); clear hA hB A B) | (refine hB ?_; clear hA hB A B))
                | refine WP.sr fun k hk => ?_ | refine WP.r fun k hk => ?_ | refine WP.sd _ rfl fun k hk => ?_ | refine WP.d _ rfl fun k hk => ?_
                | (refine WP.cc fun A B hA hB => ?_; simp [G1, pCut, pAtoi, pParse, hxi, htl, htl2, hl, hl2, hl3, hcut, ha, abound, asliceOk, aslice, isStrD, ti9, ti34, ti4, ti2, ti3, ti57, aextract, aunop, abuild, afill, placesOf, abuiltin, alen, alenOk, astrop, aeq, F10, F11, F12, F13, pSym, pInt, hn, hn2, hn3, hn4, hn5, htk, hdl, hs1, hs2, hm, hl4, hn6, onB_t, onB_f]; first | (refine hA ?_; clear hA hB A B) | (refine hB ?_; clear hA hB A B) | (refine onB_if (fun h => hA ?_) (fun h => hB ?_) <;> clear hA hB A B))
                | refine WP.q ?_ | refine WP.b ?_)
              simp [ti34, V.cs]
            | range =>
              simp only [hm] at hpx
              rw [hpx]
              repeat' (first
                | refine WP.sw 8 (by decide) (by decide) fun k hk => ?_
                | refine WP.w 8 (by decide) (by decide) fun k hk => ?_
                | refine WP.sw 9 (by decide) (by decide) fun k hk => ?_
                | refine WP.w 9 (by decide) (by decide) fun k hk => ?_
                | refine WP.sw 10 (by decide) (by decide) fun k hk => ?_
                | refine WP.w 10 (by decide) (by decide) fun k hk => ?_
                | refine WP.t ?_ | refine WP.k ?_ | refine WP.e ?_ | refine Qn ?_ | refine Qr ?_ | refine Qe ?_ | refine Bn ?_ | refine Br ?_ | refine Be ?_ | refine Bx (by decide) ?_
                | (refine RS.nl ?_; refine hk _ _ ?_; clear hk k)
                | (refine RS.st fun A B hA hB => ?_; simp [G1, pCut, pAtoi, pParse, hxi, htl, htl2, hl, hl2, hl3, hcut, ha, abound, asliceOk, aslice, isStrD, ti9, ti34, ti4, ti2, ti3, ti57, aextract, aunop, abuild, afill, placesOf, abuiltin, alen, alenOk, astrop, aeq, F10, F11, F12, F13, pSym, pInt, hn, hn2, hn3, hn4, hn5, htk, hdl, hs1, hs2, hm, hl4, hn6, onW_t, onW_f, onV_s]; first | (refine hA _ _ _ ?_ ?_; (focus (first | (simp [G1, pCut, pAtoi, pParse, hxi, htl, htl2, hl, hl2, hl3, hcut, ha, abound, asliceOk, aslice, isStrD, ti9, ti34, ti4, ti2, ti3, ti57, aextract, aunop, abuild, afill, placesOf, abuiltin, alen, alenOk, astrop, aeq, F10, F11, F12, F13, pSym, pInt, hn, hn2, hn3, hn4, hn5, htk, hdl, hs1, hs2, hm, hl4, hn6]; done) | (simp [G1, pCut, pAtoi, pParse, hxi, htl, htl2, hl, hl2, hl3, hcut, ha, abound, asliceOk, aslice, isStrD, ti9, ti34, ti4, ti2, ti3, ti57, aextract, aunop, abuild, afill, placesOf, abuiltin, alen, alenOk, astrop, aeq, F10, F11, F12, F13, pSym, pInt, hn, hn2, hn3, hn4, hn5, htk, hdl, hs1, hs2, hm, hl4, hn6]; omega))); clear hA hB A B) | (refine hB ?_; clear hA hB A B))
                | (refine RQ.nl ?_; refine hk _ _ ?_; clear hk k)
                | (refine RW.nl ?_; refine hk _ _ ?_; clear hk k)
                | (refine RW.st fun A B hA hB => ?_; simp [G1, pCut, pAtoi, pParse, hxi, htl, htl2, hl, hl2, hl3, hcut, ha, abound, asliceOk, aslice, isStrD, ti9, ti34, ti4, ti2, ti3, ti57, aextract, aunop, abuild, afill, placesOf, abuiltin, alen, alenOk, astrop, aeq, F10, F11, F12, F13, pSym, pInt, hn, hn2, hn3, hn4, hn5, htk, hdl, hs1, hs2, hm, hl4, hn6, onW_t, onW_f, onV_s]; first | (refine hA _ _ _ ?_ (by first | exact .inl (by decide) | exact .inr (.inl rfl) | exact .inr (.inr rfl)) (by first | exact .inl (by decide) | exact .inr (.inl (by decide)) | exact .inr (.inr fun s2 => by simp [G1, pCut, pAtoi, pParse, hxi, htl, htl2, hl, hl2, hl3, hcut, ha, abound, asliceOk, aslice, isStrD, ti9, ti34, ti4, ti2, ti3, ti57, aextract, aunop, abuild, afill, placesOf, abuiltin, alen, alenOk, astrop, aeq, F10, F11, F12, F13, pSym, pInt, hn, hn2, hn3, hn4, hn5, htk, hdl, hs1, hs2, hm, hl4, hn6])) ?_; (focus (first | (simp [G1, pCut, pAtoi, pParse, hxi, htl, htl2, hl, hl2, hl3, hcut, ha, abound, asliceOk, aslice, isStrD, ti9, ti34, ti4, ti2, ti3, ti57, aextract, aunop, abuild, afill, placesOf, abuiltin, alen, alenOk, astrop, aeq, F10, F11, F12, F13, pSym, pInt, hn, hn2, hn3, hn4, hn5, htk, hdl, hs1, hs2, hm, hl4, hn6]; done) | (simp [G1, pCut, pAtoi, pParse, hxi, htl, htl2, hl, hl2, hl3, hcut, ha, abound, asliceOk, aslice, isStrD, ti9, ti34, ti4, ti2, ti3, ti57, aextract, aunop, abuild, afill, placesOf, abuiltin, alen, alenOk, astrop, aeq, F10, F11, F12, F13, pSym, pInt, hn, hn2, hn3, hn4, hn5, htk, hdl, hs1, hs2, hm, hl4, hn6]; omega))); clear hA hB A B) | (refine hB ?_; clear hA hB A B))
                | (refine RQ.st fun A B hA hB => ?_; simp [G1, pCut, pAtoi, pParse, hxi, htl, htl2, hl, hl2, hl3, hcut, ha, abound, asliceOk, aslice, isStrD, ti9, ti34, ti4, ti2, ti3, ti57, aextract, aunop, abuild, afill, placesOf, abuiltin, alen, alenOk, astrop, aeq, F10, F11, F12, F13, pSym, pInt, hn, hn2, hn3, hn4, hn5, htk, hdl, hs1, hs2, hm, hl4, hn6, onW_t, onW_f, onV_s]; first | (refine hA _ _ _ ?_ (by first | exact .inl rfl | exact .inr (by decide)) ?_; (focus (first | (simp [G1, pCut, pAtoi, pParse, hxi, htl, htl2, hl, hl2, hl3, hcut, ha, abound, asliceOk, aslice, isStrD, ti9, ti34, ti4, ti2, ti3, ti57, aextract, aunop, abuild, afill, placesOf, abuiltin, alen, alenOk, astrop, aeq, F10, F11, F12, F13, pSym, pInt, hn, hn2, hn3, hn4, hn5, htk, hdl, hs1, hs2, hm, hl4, hn6]; done) | (simp [G1, pCut, pAtoi, pParse, hxi, htl, htl2, hl, hl2, hl3, hcut, ha, abound, asliceOk, aslice, isStrD, ti9, ti34, ti4, ti2, ti3, ti57, aextract, aunop, abuild, afill, placesOf, abuiltin, alen, alenOk, astrop, aeq, F10, F11, F12, F13, pSym, pInt, hn, hn2, hn3, hn4, hn5, htk, hdl, hs1, hs2, hm, hl4, hn6]; omega))); clear hA hB A B) | (refine hB ?_; clear hA hB A B))
                | refine WP.sr fun k hk => ?_ | refine WP.r fun k hk => ?_ | refine WP.sd _ rfl fun k hk => ?_ | refine WP.d _ rfl fun k hk => ?_
                | (refine WP.cc fun A B hA hB => ?_; simp [G1, pCut, pAtoi, pParse, hxi, htl, htl2, hl, hl2, hl3, hcut, ha, abound, asliceOk, aslice, isStrD, ti9, ti34, ti4, ti2, ti3, ti57, aextract, aunop, abuild, afill, placesOf, abuiltin, alen, alenOk, astrop, aeq, F10, F11, F12, F13, pSym, pInt, hn, hn2, hn3, hn4, hn5, htk, hdl, hs1, hs2, hm, hl4, hn6, onB_t, onB_f]; first | (refine hA ?_; clear hA hB A B) | (refine hB ?_; clear hA hB A B) | (refine onB_if (fun h => hA ?_) (fun h => hB ?_) <;> clear hA hB A B))
                | refine WP.q ?_ | refine WP.b ?_)
              simp [ti34, V.cs]
            | _ =>
              simp only [hm] at hpx
              rw [hpx]
              repeat' (first
                | refine WP.sw 8 (by decide) (by decide) fun k hk => ?_
                | refine WP.w 8 (by decide) (by decide) fun k hk => ?_
                | refine WP.sw 9 (by decide) (by decide) fun k hk => ?_
                | refine WP.w 9 (by decide) (by decide) fun k hk => ?_
                | refine WP.sw 10 (by decide) (by decide) fun k hk => ?_
                | refine WP.w 10 (by decide) (by decide) fun k hk => ?_
                | refine WP.t ?_ | refine WP.k ?_ | refine WP.e ?_ | refine Qn ?_ | refine Qr ?_ | refine Qe ?_ | refine Bn ?_ | refine Br ?_ | refine Be ?_ | refine Bx (by decide) ?_
                | (refine RS.nl ?_; refine hk _ _ ?_; clear hk k)
                | (refine RS.st fun A B hA hB => ?_; simp [G1, pCut, pAtoi, pParse, hxi, htl, htl2, hl, hl2, hl3, hcut, ha, abound, asliceOk, aslice, isStrD, ti9, ti34, ti4, ti2, ti3, ti57, aextract, aunop, abuild, afill, placesOf, abuiltin, alen, alenOk, astrop, aeq, F10, F11, F12, F13, pSym, pInt, hn, hn2, hn3, hn4, hn5, htk, hdl, hs1, hs2, hm, hl4, hn6, onW_t, onW_f, onV_s]; first | (refine hA _ _ _ ?_ ?_; (focus (first | (simp [G1, pCut, pAtoi, pParse, hxi, htl, htl2, hl, hl2, hl3, hcut, ha, abound, asliceOk, aslice, isStrD, ti9, ti34, ti4, ti2, ti3, ti57, aextract, aunop, abuild, afill, placesOf, abuiltin, alen, alenOk, astrop, aeq, F10, F11, F12, F13, pSym, pInt, hn, hn2, hn3, hn4, hn5, htk, hdl, hs1, hs2, hm, hl4, hn6]; done) | (simp [G1, pCut, pAtoi, pParse, hxi, htl, htl2, hl, hl2, hl3, hcut, ha, abound, asliceOk, aslice, isStrD, ti9, ti34, ti4, ti2, ti3, ti57, aextract, aunop, abuild, afill, placesOf, abuiltin, alen, alenOk, astrop, aeq, F10, F11, F12, F13, pSym, pInt, hn, hn2, hn3, hn4, hn5, htk, hdl, hs1, hs2, hm, hl4, hn6]; omega))); clear hA hB A B) | (refine hB ?_; clear hA hB A B))
                | (refine RQ.nl ?_; refine hk _ _ ?_; clear hk k)
                | (refine RW.nl ?_; refine hk _ _ ?_; clear hk k)
                | (refine RW.st fun A B hA hB => ?_; simp [G1, pCut, pAtoi, pParse, hxi, htl, htl2, hl, hl2, hl3, hcut, ha, abound, asliceOk, aslice, isStrD, ti9, ti34, ti4, ti2, ti3, ti57, aextract, aunop, abuild, afill, placesOf, abuiltin, alen, alenOk, astrop, aeq, F10, F11, F12, F13, pSym, pInt, hn, hn2, hn3, hn4, hn5, htk, hdl, hs1, hs2, hm, hl4, hn6, onW_t, onW_f, onV_s]; first | (refine hA _ _ _ ?_ (by first | exact .inl (by decide) | exact .inr (.inl rfl) | exact .inr (.inr rfl)) (by first | exact .inl (by decide) | exact .inr (.inl (by decide)) | exact .inr (.inr fun s2 => by simp [G1, pCut, pAtoi, pParse, hxi, htl, htl2, hl, hl2, hl3, hcut, ha, abound, asliceOk, aslice, isStrD, ti9, ti34, ti4, ti2, ti3, ti57, aextract, aunop, abuild, afill, placesOf, abuiltin, alen, alenOk, astrop, aeq, F10, F11, F12, F13, pSym, pInt, hn, hn2, hn3, hn4, hn5, htk, hdl, hs1, hs2, hm, hl4, hn6])) ?_; (focus (first | (simp [G1, pCut, pAtoi, pParse, hxi, htl, htl2, hl, hl2, hl3, hcut, ha, abound, asliceOk, aslice, isStrD, ti9, ti34, ti4, ti2, ti3, ti57, aextract, aunop, abuild, afill, placesOf, abuiltin, alen, alenOk, astrop, aeq, F10, F11, F12, F13, pSym, pInt, hn, hn2, hn3, hn4, hn5, htk, hdl, hs1, hs2, hm, hl4, hn6]; done) | (simp [G1, pCut, pAtoi, pParse, hxi, htl, htl2, hl, hl2, hl3, hcut, ha, abound, asliceOk, aslice, isStrD, ti9, ti34, ti4, ti2, ti3, ti57, aextract, aunop, abuild, afill, placesOf, abuiltin, alen, alenOk, astrop, aeq, F10, F11, F12, F13, pSym, pInt, hn, hn2, hn3, hn4, hn5, htk, hdl, hs1, hs2, hm, hl4, hn6]; omega))); clear hA hB A B) | (refine hB ?_; clear hA hB A B))
                | (refine RQ.st fun A B hA hB => ?_; simp [G1, pCut, pAtoi, pParse, hxi, htl, htl2, hl, hl2, hl3, hcut, ha, abound, asliceOk, aslice, isStrD, ti9, ti34, ti4, ti2, ti3, ti57, aextract, aunop, abuild, afill, placesOf, abuiltin, alen, alenOk, astrop, aeq, F10, F11, F12, F13, pSym, pInt, hn, hn2, hn3, hn4, hn5, htk, hdl, hs1, hs2, hm, hl4, hn6, onW_t, onW_f, onV_s]; first | (refine hA _ _ _ ?_ (by first | exact .inl rfl | exact .inr (by decide)) ?_; (focus (first | (simp [G1, pCut, pAtoi, pParse, hxi, htl, htl2, hl, hl2, hl3, hcut, ha, abound, asliceOk, aslice, isStrD, ti9, ti34, ti4, ti2, ti3, ti57, aextract, aunop, abuild, afill, placesOf, abuiltin, alen, alenOk, astrop, aeq, F10, F11, F12, F13, pSym, pInt, hn, hn2, hn3, hn4, hn5, htk, hdl, hs1, hs2, hm, hl4, hn6]; done) | (simp [G1, pCut, pAtoi, pParse, hxi, htl, htl2, hl, hl2, hl3, hcut, ha, abound, asliceOk, aslice, isStrD, ti9, ti34, ti4, ti2, ti3, ti57, aextract, aunop, abuild, afill, placesOf, abuiltin, alen, alenOk, astrop, aeq, F10, F11, F12, F13, pSym, pInt, hn, hn2, hn3, hn4, hn5, htk, hdl, hs1, hs2, hm, hl4, hn6]; omega))); clear hA hB A B) | (refine hB ?_; clear hA hB A B))
                | refine WP.sr fun k hk => ?_ | refine WP.r fun k hk => ?_ | refine WP.sd _ rfl fun k hk => ?_ | refine WP.d _ rfl fun k hk => ?_
                | (refine WP.cc fun A B hA hB => ?_; simp [G1, pCut, pAtoi, pParse, hxi, htl, htl2, hl, hl2, hl3, hcut, ha, abound, asliceOk, aslice, isStrD, ti9, ti34, ti4, ti2, ti3, ti57, aextract, aunop, abuild, afill, placesOf, abuiltin, alen, alenOk, astrop, aeq, F10, F11, F12, F13, pSym, pInt, hn, hn2, hn3, hn4, hn5, htk, hdl, hs1, hs2, hm, hl4, hn6, onB_t, onB_f]; first | (refine hA ?_; clear hA hB A B) | (refine hB ?_; clear hA hB A B) | (refine onB_if (fun h => hA ?_) (fun h => hB ?_) <;> clear hA hB A B))
                | refine WP.q ?_ | refine WP.b ?_)
              simp [ti34, V.cs]
  | _ =>
    simp only [ha] at hpx
    have hpx2 : partS x = (⟨false, [], 0⟩, [], false) := by rw [hpx]
    rw [hpx2]
    cases cb
    all_goals
      repeat' (first
        | refine WP.t ?_ | refine WP.k ?_ | refine WP.e ?_ | refine Qn ?_ | refine Qr ?_ | refine Qe ?_ | refine Bn ?_ | refine Br ?_ | refine Be ?_ | refine Bx (by decide) ?_
        | (refine RS.nl ?_; refine hk _ _ ?_; clear hk k)
        | (refine RS.st fun A B hA hB => ?_; simp [G1, pCut, pAtoi, pParse, hxi, htl, htl2, hl, hl2, hl3, hcut, ha, abound, asliceOk, aslice, isStrD, ti9, ti34, ti4, ti2, ti3, ti57, aextract, aunop, abuild, afill, placesOf, abuiltin, alen, alenOk, astrop, aeq, F10, F11, F12, F13, pSym, pInt, onW_t, onW_f, onV_s]; first | (refine hA _ _ _ ?_ ?_; (focus (first | (simp [G1, pCut, pAtoi, pParse, hxi, htl, htl2, hl, hl2, hl3, hcut, ha, abound, asliceOk, aslice, isStrD, ti9, ti34, ti4, ti2, ti3, ti57, aextract, aunop, abuild, afill, placesOf, abuiltin, alen, alenOk, astrop, aeq, F10, F11, F12, F13, pSym, pInt]; done) | (simp [G1, pCut, pAtoi, pParse, hxi, htl, htl2, hl, hl2, hl3, hcut, ha, abound, asliceOk, aslice, isStrD, ti9, ti34, ti4, ti2, ti3, ti57, aextract, aunop, abuild, afill, placesOf, abuiltin, alen, alenOk, astrop, aeq, F10, F11, F12, F13, pSym, pInt]; omega))); clear hA hB A B) | (refine hB ?_; clear hA hB A B))
        | (refine RQ.nl ?_; refine hk _ _ ?_; clear hk k)
        | (refine RW.nl ?_; refine hk _ _ ?_; clear hk k)
        | (refine RW.st fun A B hA hB => ?_; simp [G1, pCut, pAtoi, pParse, hxi, htl, htl2, hl, hl2, hl3, hcut, ha, abound, asliceOk, aslice, isStrD, ti9, ti34, ti4, ti2, ti3, ti57, aextract, aunop, abuild, afill, placesOf, abuiltin, alen, alenOk, astrop, aeq, F10, F11, F12, F13, pSym, pInt, onW_t, onW_f, onV_s]; first | (refine hA _ _ _ ?_ (by first | exact .inl (by decide) | exact .inr (.inl rfl) | exact .inr (.inr rfl)) (by first | exact .inl (by decide) | exact .inr (.inl (by decide)) | exact .inr (.inr fun s2 => by simp [G1, pCut, pAtoi, pParse, hxi, htl, htl2, hl, hl2, hl3, hcut, ha, abound, asliceOk, aslice, isStrD, ti9, ti34, ti4, ti2, ti3, ti57, aextract, aunop, abuild, afill, placesOf, abuiltin, alen, alenOk, astrop, aeq, F10, F11, F12, F13, pSym, pInt])) ?_; (focus (first | (simp [G1, pCut, pAtoi, pParse, hxi, htl, htl2, hl, hl2, hl3, hcut, ha, abound, asliceOk, aslice, isStrD, ti9, ti34, ti4, ti2, ti3, ti57, aextract, aunop, abuild, afill, placesOf, abuiltin, alen, alenOk, astrop, aeq, F10, F11, F12, F13, pSym, pInt]; done) | (simp [G1, pCut, pAtoi, pParse, hxi, htl, htl2, hl, hl2, hl3, hcut, ha, abound, asliceOk, aslice, isStrD, ti9, ti34, ti4, ti2, ti3, ti57, aextract, aunop, abuild, afill, placesOf, abuiltin, alen, alenOk, astrop, aeq, F10, F11, F12, F13, pSym, pInt]; omega))); clear hA hB A B) | (refine hB ?_; clear hA hB A B))
        | (refine RQ.st fun A B hA hB => ?_; simp [G1, pCut, pAtoi, pParse, hxi, htl, htl2, hl, hl2, hl3, hcut, ha, abound, asliceOk, aslice, isStrD, ti9, ti34, ti4, ti2, ti3, ti57, aextract, aunop, abuild, afill, placesOf, abuiltin, alen, alenOk, astrop, aeq, F10, F11, F12, F13, pSym, pInt, onW_t, onW_f, onV_s]; first | (refine hA _ _ _ ?_ (by first | exact .inl rfl | exact .inr (by decide)) ?_; (focus (first | (simp [G1, pCut, pAtoi, pParse, hxi, htl, htl2, hl, hl2, hl3, hcut, ha, abound, asliceOk, aslice, isStrD, ti9, ti34, ti4, ti2, ti3, ti57, aextract, aunop, abuild, afill, placesOf, abuiltin, alen, alenOk, astrop, aeq, F10, F11, F12, F13, pSym, pInt]; done) | (simp [G1, pCut, pAtoi, pParse, hxi, htl, htl2, hl, hl2, hl3, hcut, ha, abound, asliceOk, aslice, isStrD, ti9, ti34, ti4, ti2, ti3, ti57, aextract, aunop, abuild, afill, placesOf, abuiltin, alen, alenOk, astrop, aeq, F10, F11, F12, F13, pSym, pInt]; omega))); clear hA hB A B) | (refine hB ?_; clear hA hB A B))
        | refine WP.sr fun k hk => ?_ | refine WP.r fun k hk => ?_ | refine WP.sd _ rfl fun k hk => ?_ | refine WP.d _ rfl fun k hk => ?_
        | (refine WP.cc fun A B hA hB => ?_; simp [G1, pCut, pAtoi, pParse, hxi, htl, htl2, hl, hl2, hl3, hcut, ha, abound, asliceOk, aslice, isStrD, ti9, ti34, ti4, ti2, ti3, ti57, aextract, aunop, abuild, afill, placesOf, abuiltin, alen, alenOk, astrop, aeq, F10, F11, F12, F13, pSym, pInt, onB_t, onB_f]; first | (refine hA ?_; clear hA hB A B) | (refine hB ?_; clear hA hB A B) | (refine onB_if (fun h => hA ?_) (fun h => hB ?_) <;> clear hA hB A B))
        | refine WP.q ?_ | refine WP.b ?_)
      simp [ti34, V.cs]
def pPart : List AV → Option AV
  | [.str x] => if x ≠ [] ∧ x.length ≤ 100000000 then some (partA x) else none
  | _ => none
def G2 : Fns := G1.addP 38 pPart
theorem G2_ok (hK : 3 < K) (hT : Tens gw) (hE : Errs gw) : FOk (env K gw) G2 := by
  refine (G1_ok hK hT hE).addP ?_
  intro xs s r h; unfold pPart at h; split at h
  · split at h
    · rename_i hc; cases h; exact ft38 hK hT hE _ hc.1 hc.2
    · cases h
  · cases h
end
end Go.Am
namespace Go.Am
open Go.Proofs
section
variable {K : Nat} {gw : World} {s : St}
attribute [local simp] RS_cons' RS_nil RQ_nil RQ_cons' awanted xop zOf zrow aop ev T0 Slots.put Slots.set Slots.get awr WOk AV.may ofConst abinop aint isConst St.get_push St.get_put St.live AV.fit AV.cells AV.one fieldOf afieldAddr aload ofCells astore splice May eqres env_ti FinP ares aresL ares1 Fns.addP Fns.add
def backS (x : List UInt8) : Option (List V) := backL (x.length + 1) x
theorem backL_fuel : ∀ (n : Nat) (x : List UInt8), x.length < n → backL n x = backS x := by
  intro n
  induction n with
  | zero => intro x h; omega
  | succ n ih =>
    intro x h
    unfold backS backL
    split
    · rfl
    · rename_i hx
      split
      · rename_i v r hp
        have h1 := (part_less hx hp).1
        have h2 := ih r (by omega)
        have h3 : backL x.length r = backS r := by
          rcases Nat.lt_or_ge n x.length with h4 | h4
          · omega
          · have : x.length = n ∨ x.length < n := by omega
            rcases this with e | e
            · rw [e]; exact h2
            · clear h2
              have : ∀ m, m ≤ n → r.length < m → backL m r = backS r := fun m hm hr => by
                rcases Nat.lt_or_ge m (n + 1) with _ | _
                · have gen : ∀ (k m : Nat) (y : List UInt8), y.length < m → m ≤ k → backL m y = backS y := fun k => by
                    induction k with
                    | zero => intro m y h1 h2; omega
                    | succ k ihk =>
                      intro m y h1 h2
                      obtain ⟨m, rfl⟩ : ∃ p, m = p + 1 := ⟨m - 1, by omega⟩
                      unfold backS backL
                      split
                      · rfl
                      · rename_i hy
                        split
                        · rename_i v' r' hp'
                          have h5 := (part_less hy hp').1
                          rw [ihk m r' (by omega) (by omega), ihk y.length r' (by omega) (by omega)]
                        · rfl
                  exact gen m m r hr (Nat.le_refl _)
                · omega
              exact this x.length (by omega) (by omega)
        rw [h2, h3]
      · rfl
theorem backS_step {x r : List UInt8} {v : V} (hx : x ≠ []) (hp : partS x = (v, r, true)) : backS x = (backS r).map (v :: ·) := by
  have h1 := (part_less hx hp).1
  have h2 := backL_fuel x.length r (by omega)
  show backL (x.length + 1) x = _
  unfold backL
  rw [if_neg hx, hp]
  simp only
  rw [h2]
theorem backS_bad {x : List UInt8} (hx : x ≠ []) (hp : (partS x).2.2 = false) : backS x = none := by
  show backL (x.length + 1) x = _
  unfold backL
  rw [if_neg hx]
  generalize partS x = p at hp
  obtain ⟨v, r, b⟩ := p
  simp only at hp
  subst hp
  rfl
theorem backS_nil : backS [] = some [] := rfl
def backA (x : List UInt8) : AV := match backS x with
  | some l => if keyT l = x then .tup [.sl (l.map V.cs), .int .i64 0] else .tup [.sl [], .int .i64 2]
  | none => .tup [.sl [], .int .i64 2]
theorem below_res {n : Nat} (l : List V) : Below n (.tup [.sl (l.map V.cs), .int .i64 0]) := by simp [V.cs]
theorem frz_bad2 {s1 : St} {n : Nat} : Frz s1 n (.tup [.nsl, .int .i64 2]) (.tup [.sl [], .int .i64 2]) := .tup _ _ rfl (frz_pair .nil (.same _ (.int _ _)))
set_option maxHeartbeats 4000000 in
theorem ft20 (hK : 3 < K) (hT : Tens gw) (hE : Errs gw) (x : List UInt8) (hl : x.length ≤ 100000000) : FT (env K gw) NoW 20 [.str x] s (backA x) s := by
  refine FT.data (fn := Tryd.f20) (G2_ok hK hT hE) mixed Tryd.func20 (by kernel_rfl) (by rfl) rfl rfl (by simp) rfl fun μ w => ?_
  repeat' (first
    | refine WP.t ?_ | refine WP.k ?_ | refine WP.e ?_ | refine Qn ?_ | refine Qr ?_ | refine Qe ?_ | refine Bn ?_ | refine Br ?_ | refine Be ?_ | refine Bx (by decide) ?_
    | (refine RS.nl ?_; refine hk _ _ ?_; clear hk k)
    | (refine RS.st fun A B hA hB => ?_; simp [G2, astrop, onW_t, onW_f, onV_s]; first | (refine hA _ _ _ ?_ ?_; (focus (first | (simp [G2, astrop]; done) | (simp [G2, astrop]; omega))); clear hA hB A B) | (refine hB ?_; clear hA hB A B))
    | (refine RQ.nl ?_; refine hk _ _ ?_; clear hk k)
    | (refine RW.nl ?_; refine hk _ _ ?_; clear hk k)
    | (refine RW.st fun A B hA hB => ?_; simp [G2, astrop, onW_t, onW_f, onV_s]; first | (refine hA _ _ _ ?_ (by first | exact .inl (by decide) | exact .inr (.inl rfl) | exact .inr (.inr rfl)) (by first | exact .inl (by decide) | exact .inr (.inl (by decide)) | exact .inr (.inr fun s2 => by simp [G2, astrop])) ?_; (focus (first | (simp [G2, astrop]; done) | (simp [G2, astrop]; omega))); clear hA hB A B) | (refine hB ?_; clear hA hB A B))
    | (refine RQ.st fun A B hA hB => ?_; simp [G2, astrop, onW_t, onW_f, onV_s]; first | (refine hA _ _ _ ?_ (by first | exact .inl rfl | exact .inr (by decide)) ?_; (focus (first | (simp [G2, astrop]; done) | (simp [G2, astrop]; omega))); clear hA hB A B) | (refine hB ?_; clear hA hB A B))
    | refine WP.sr fun k hk => ?_ | refine WP.r fun k hk => ?_ | refine WP.sd _ rfl fun k hk => ?_ | refine WP.d _ rfl fun k hk => ?_
    | (refine WP.cc fun A B hA hB => ?_; simp [G2, astrop, onB_t, onB_f]; first | (refine hA ?_; clear hA hB A B) | (refine hB ?_; clear hA hB A B) | (refine onB_if (fun h => hA ?_) (fun h => hB ?_) <;> clear hA hB A B))
    | refine WP.q ?_ | refine WP.b ?_)
  refine WP_loop (fun n T s' => ∃ (r : List UInt8) (acc : List V), n = r.length ∧ T.get 0 = .str x ∧ T.get 5 = .str r ∧ s.nx ≤ s'.nx ∧ r.length + VsizeL acc ≤ x.length ∧ (∀ v ∈ acc, i64ok v.n = true) ∧ backS x = (backS r).map (acc ++ ·) ∧
    ((acc = [] ∧ T.get 4 = .nsl) ∨ (acc ≠ [] ∧ ∃ rd, s.nx ≤ rd ∧ rd < s'.nx ∧ T.get 4 = .ls rd 0 acc.length ∧ s'.get rd = some (.row 3 (true, 34) (acc.map V.cs))))) x.length ⟨x, [], rfl, by simp, by simp, by simp, by simp [VsizeL], by simp, by simp, .inl ⟨rfl, by simp⟩⟩ ?_
  rintro n T s' ⟨r, acc, rfl, g0, g5, hnx, hsz, hacc, hback, hB⟩
  by_cases hr0 : r = []
  · subst hr0
    rw [backS_nil] at hback
    simp only [Option.map_some, List.append_nil] at hback
    have hok : okT acc = true := ok_of_size acc hacc (by omega)
    by_cases hkx : keyT acc = x
    · have hres : backA x = .tup [.sl (acc.map V.cs), .int .i64 0] := by
        unfold backA
        rw [hback]
        simp only
        rw [if_pos hkx]
      rw [hres]
      rcases hB with ⟨h0, g4⟩ | ⟨h0, rd, hrd, hrd2, g4, hr⟩
      · subst h0
        repeat' (first
          | (refine WP.nl 4 ?_ ?_; (focus (simp [g4]; done)))
          | refine WP.t ?_ | refine WP.k ?_ | refine WP.e ?_ | refine Qn ?_ | refine Qr ?_ | refine Qe ?_ | refine Bn ?_ | refine Br ?_ | refine Be ?_ | refine Bx (by decide) ?_
          | (refine RS.nl ?_; refine hk _ _ ?_; clear hk k)
          | (refine RS.st fun A B hA hB => ?_; simp [G2, G1, F13, F12, g0, g4, g5, astrop, hok, hkx, onW_t, onW_f, onV_s]; first | (refine hA _ _ _ ?_ ?_; (focus (first | (simp [G2, G1, F13, F12, g0, g4, g5, astrop, hok, hkx]; done) | (simp [G2, G1, F13, F12, g0, g4, g5, astrop, hok, hkx]; omega))); clear hA hB A B) | (refine hB ?_; clear hA hB A B))
          | (refine RQ.nl ?_; refine hk _ _ ?_; clear hk k)
          | (refine RW.nl ?_; refine hk _ _ ?_; clear hk k)
          | (refine RW.st fun A B hA hB => ?_; simp [G2, G1, F13, F12, g0, g4, g5, astrop, hok, hkx, onW_t, onW_f, onV_s]; first | (refine hA _ _ _ ?_ (by first | exact .inl (by decide) | exact .inr (.inl rfl) | exact .inr (.inr rfl)) (by first | exact .inl (by decide) | exact .inr (.inl (by decide)) | exact .inr (.inr fun s2 => by simp [G2, G1, F13, F12, g0, g4, g5, astrop, hok, hkx])) ?_; (focus (first | (simp [G2, G1, F13, F12, g0, g4, g5, astrop, hok, hkx]; done) | (simp [G2, G1, F13, F12, g0, g4, g5, astrop, hok, hkx]; omega))); clear hA hB A B) | (refine hB ?_; clear hA hB A B))
          | (refine RQ.st fun A B hA hB => ?_; simp [G2, G1, F13, F12, g0, g4, g5, astrop, hok, hkx, onW_t, onW_f, onV_s]; first | (refine hA _ _ _ ?_ (by first | exact .inl rfl | exact .inr (by decide)) ?_; (focus (first | (simp [G2, G1, F13, F12, g0, g4, g5, astrop, hok, hkx]; done) | (simp [G2, G1, F13, F12, g0, g4, g5, astrop, hok, hkx]; omega))); clear hA hB A B) | (refine hB ?_; clear hA hB A B))
          | refine WP.sr fun k hk => ?_ | refine WP.r fun k hk => ?_ | refine WP.sd _ rfl fun k hk => ?_ | refine WP.d _ rfl fun k hk => ?_
          | (refine WP.cc fun A B hA hB => ?_; simp [G2, G1, F13, F12, g0, g4, g5, astrop, hok, hkx, onB_t, onB_f]; first | (refine hA ?_; clear hA hB A B) | (refine hB ?_; clear hA hB A B) | (refine onB_if (fun h => hA ?_) (fun h => hB ?_) <;> clear hA hB A B))
          | refine WP.q ?_ | refine WP.b ?_)
        exact ⟨.inr rfl, .tup [.sl [], .int .i64 0], by simp, .same _ (below_res [])⟩
      · skip
        repeat' (first
          | (refine WP.fz 4 rd 3 acc.length (true, 34) (acc.map V.cs) ?_ ?_ ?_ ?_ ?_; (focus (simp [g4]; done)); (focus (exact hr)); (focus (simp; done)); (focus (simp; omega)))
          | refine WP.t ?_ | refine WP.k ?_ | refine WP.e ?_ | refine Qn ?_ | refine Qr ?_ | refine Qe ?_ | refine Bn ?_ | refine Br ?_ | refine Be ?_ | refine Bx (by decide) ?_
          | (refine RS.nl ?_; refine hk _ _ ?_; clear hk k)
          | (refine RS.st fun A B hA hB => ?_; simp [G2, G1, F13, F12, g0, g4, g5, astrop, hok, hkx, onW_t, onW_f, onV_s]; first | (refine hA _ _ _ ?_ ?_; (focus (first | (simp [G2, G1, F13, F12, g0, g4, g5, astrop, hok, hkx]; done) | (simp [G2, G1, F13, F12, g0, g4, g5, astrop, hok, hkx]; omega))); clear hA hB A B) | (refine hB ?_; clear hA hB A B))
          | (refine RQ.nl ?_; refine hk _ _ ?_; clear hk k)
          | (refine RW.nl ?_; refine hk _ _ ?_; clear hk k)
          | (refine RW.st fun A B hA hB => ?_; simp [G2, G1, F13, F12, g0, g4, g5, astrop, hok, hkx, onW_t, onW_f, onV_s]; first | (refine hA _ _ _ ?_ (by first | exact .inl (by decide) | exact .inr (.inl rfl) | exact .inr (.inr rfl)) (by first | exact .inl (by decide) | exact .inr (.inl (by decide)) | exact .inr (.inr fun s2 => by simp [G2, G1, F13, F12, g0, g4, g5, astrop, hok, hkx])) ?_; (focus (first | (simp [G2, G1, F13, F12, g0, g4, g5, astrop, hok, hkx]; done) | (simp [G2, G1, F13, F12, g0, g4, g5, astrop, hok, hkx]; omega))); clear hA hB A B) | (refine hB ?_; clear hA hB A B))
          | (refine RQ.st fun A B hA hB => ?_; simp [G2, G1, F13, F12, g0, g4, g5, astrop, hok, hkx, onW_t, onW_f, onV_s]; first | (refine hA _ _ _ ?_ (by first | exact .inl rfl | exact .inr (by decide)) ?_; (focus (first | (simp [G2, G1, F13, F12, g0, g4, g5, astrop, hok, hkx]; done) | (simp [G2, G1, F13, F12, g0, g4, g5, astrop, hok, hkx]; omega))); clear hA hB A B) | (refine hB ?_; clear hA hB A B))
          | refine WP.sr fun k hk => ?_ | refine WP.r fun k hk => ?_ | refine WP.sd _ rfl fun k hk => ?_ | refine WP.d _ rfl fun k hk => ?_
          | (refine WP.cc fun A B hA hB => ?_; simp [G2, G1, F13, F12, g0, g4, g5, astrop, hok, hkx, onB_t, onB_f]; first | (refine hA ?_; clear hA hB A B) | (refine hB ?_; clear hA hB A B) | (refine onB_if (fun h => hA ?_) (fun h => hB ?_) <;> clear hA hB A B))
          | refine WP.q ?_ | refine WP.b ?_)
        exact ⟨.inr rfl, .tup [.sl (acc.map V.cs), .int .i64 0], by simp, .same _ (below_res _)⟩
    · have hres : backA x = .tup [.sl [], .int .i64 2] := by
        unfold backA
        rw [hback]
        simp only
        rw [if_neg hkx]
      rw [hres]
      have hkb : (keyT acc == x) = false := by rw [beq_eq_false_iff_ne]; exact hkx
      rcases hB with ⟨h0, g4⟩ | ⟨h0, rd, hrd, hrd2, g4, hr⟩
      · subst h0
        repeat' (first
          | (refine WP.nl 4 ?_ ?_; (focus (simp [g4]; done)))
          | refine WP.t ?_ | refine WP.k ?_ | refine WP.e ?_ | refine Qn ?_ | refine Qr ?_ | refine Qe ?_ | refine Bn ?_ | refine Br ?_ | refine Be ?_ | refine Bx (by decide) ?_
          | (refine RS.nl ?_; refine hk _ _ ?_; clear hk k)
          | (refine RS.st fun A B hA hB => ?_; simp [G2, G1, F13, F12, g0, g4, g5, astrop, hok, hkb, onW_t, onW_f, onV_s]; first | (refine hA _ _ _ ?_ ?_; (focus (first | (simp [G2, G1, F13, F12, g0, g4, g5, astrop, hok, hkb]; done) | (simp [G2, G1, F13, F12, g0, g4, g5, astrop, hok, hkb]; omega))); clear hA hB A B) | (refine hB ?_; clear hA hB A B))
          | (refine RQ.nl ?_; refine hk _ _ ?_; clear hk k)
          | (refine RW.nl ?_; refine hk _ _ ?_; clear hk k)
          | (refine RW.st fun A B hA hB => ?_; simp [G2, G1, F13, F12, g0, g4, g5, astrop, hok, hkb, onW_t, onW_f, onV_s]; first | (refine hA _ _ _ ?_ (by first | exact .inl (by decide) | exact .inr (.inl rfl) | exact .inr (.inr rfl)) (by first | exact .inl (by decide) | exact .inr (.inl (by decide)) | exact .inr (.inr fun s2 => by simp [G2, G1, F13, F12, g0, g4, g5, astrop, hok, hkb])) ?_; (focus (first | (simp [G2, G1, F13, F12, g0, g4, g5, astrop, hok, hkb]; done) | (simp [G2, G1, F13, F12, g0, g4, g5, astrop, hok, hkb]; omega))); clear hA hB A B) | (refine hB ?_; clear hA hB A B))
          | (refine RQ.st fun A B hA hB => ?_; simp [G2, G1, F13, F12, g0, g4, g5, astrop, hok, hkb, onW_t, onW_f, onV_s]; first | (refine hA _ _ _ ?_ (by first | exact .inl rfl | exact .inr (by decide)) ?_; (focus (first | (simp [G2, G1, F13, F12, g0, g4, g5, astrop, hok, hkb]; done) | (simp [G2, G1, F13, F12, g0, g4, g5, astrop, hok, hkb]; omega))); clear hA hB A B) | (refine hB ?_; clear hA hB A B))
          | refine WP.sr fun k hk => ?_ | refine WP.r fun k hk => ?_ | refine WP.sd _ rfl fun k hk => ?_ | refine WP.d _ rfl fun k hk => ?_
          | (refine WP.cc fun A B hA hB => ?_; simp [G2, G1, F13, F12, g0, g4, g5, astrop, hok, hkb, onB_t, onB_f]; first | (refine hA ?_; clear hA hB A B) | (refine hB ?_; clear hA hB A B) | (refine onB_if (fun h => hA ?_) (fun h => hB ?_) <;> clear hA hB A B))
          | refine WP.q ?_ | refine WP.b ?_)
        exact ⟨.inr rfl, .tup [.nsl, .int .i64 2], by simp, frz_bad2⟩
      · skip
        repeat' (first
          | (refine WP.fz 4 rd 3 acc.length (true, 34) (acc.map V.cs) ?_ ?_ ?_ ?_ ?_; (focus (simp [g4]; done)); (focus (exact hr)); (focus (simp; done)); (focus (simp; omega)))
          | refine WP.t ?_ | refine WP.k ?_ | refine WP.e ?_ | refine Qn ?_ | refine Qr ?_ | refine Qe ?_ | refine Bn ?_ | refine Br ?_ | refine Be ?_ | refine Bx (by decide) ?_
          | (refine RS.nl ?_; refine hk _ _ ?_; clear hk k)
          | (refine RS.st fun A B hA hB => ?_; simp [G2, G1, F13, F12, g0, g4, g5, astrop, hok, hkb, onW_t, onW_f, onV_s]; first | (refine hA _ _ _ ?_ ?_; (focus (first | (simp [G2, G1, F13, F12, g0, g4, g5, astrop, hok, hkb]; done) | (simp [G2, G1, F13, F12, g0, g4, g5, astrop, hok, hkb]; omega))); clear hA hB A B) | (refine hB ?_; clear hA hB A B))
          | (refine RQ.nl ?_; refine hk _ _ ?_; clear hk k)
          | (refine RW.nl ?_; refine hk _ _ ?_; clear hk k)
          | (refine RW.st fun A B hA hB => ?_; simp [G2, G1, F13, F12, g0, g4, g5, astrop, hok, hkb, onW_t, onW_f, onV_s]; first | (refine hA _ _ _ ?_ (by first | exact .inl (by decide) | exact .inr (.inl rfl) | exact .inr (.inr rfl)) (by first | exact .inl (by decide) | exact .inr (.inl (by decide)) | exact .inr (.inr fun s2 => by simp [G2, G1, F13, F12, g0, g4, g5, astrop, hok, hkb])) ?_; (focus (first | (simp [G2, G1, F13, F12, g0, g4, g5, astrop, hok, hkb]; done) | (simp [G2, G1, F13, F12, g0, g4, g5, astrop, hok, hkb]; omega))); clear hA hB A B) | (refine hB ?_; clear hA hB A B))
          | (refine RQ.st fun A B hA hB => ?_; simp [G2, G1, F13, F12, g0, g4, g5, astrop, hok, hkb, onW_t, onW_f, onV_s]; first | (refine hA _ _ _ ?_ (by first | exact .inl rfl | exact .inr (by decide)) ?_; (focus (first | (simp [G2, G1, F13, F12, g0, g4, g5, astrop, hok, hkb]; done) | (simp [G2, G1, F13, F12, g0, g4, g5, astrop, hok, hkb]; omega))); clear hA hB A B) | (refine hB ?_; clear hA hB A B))
          | refine WP.sr fun k hk => ?_ | refine WP.r fun k hk => ?_ | refine WP.sd _ rfl fun k hk => ?_ | refine WP.d _ rfl fun k hk => ?_
          | (refine WP.cc fun A B hA hB => ?_; simp [G2, G1, F13, F12, g0, g4, g5, astrop, hok, hkb, onB_t, onB_f]; first | (refine hA ?_; clear hA hB A B) | (refine hB ?_; clear hA hB A B) | (refine onB_if (fun h => hA ?_) (fun h => hB ?_) <;> clear hA hB A B))
          | refine WP.q ?_ | refine WP.b ?_)
        exact ⟨.inr rfl, .tup [.nsl, .int .i64 2], by simp, frz_bad2⟩
  · have hrl : r.length ≤ 100000000 := by omega
    have hne : r.isEmpty = false := by rw [List.isEmpty_eq_false_iff]; exact hr0
    have hla := len_Vsize acc
    cases hp : partS r with
    | mk v q =>
    obtain ⟨r', b⟩ := q
    cases b with
    | false =>
      have hb : backA x = .tup [.sl [], .int .i64 2] := by
        unfold backA
        rw [hback, backS_bad hr0 (by rw [hp])]
        rfl
      rw [hb]
      have g4 : K = K := rfl
      repeat' (first
        | refine WP.t ?_ | refine WP.k ?_ | refine WP.e ?_ | refine Qn ?_ | refine Qr ?_ | refine Qe ?_ | refine Bn ?_ | refine Br ?_ | refine Be ?_ | refine Bx (by decide) ?_
        | (refine RS.nl ?_; refine hk _ _ ?_; clear hk k)
        | (refine RS.st fun A B hA hB => ?_; simp [G2, pPart, g0, g4, g5, hnx, hr0, hrl, hp, partA, aextract, ti34, ti4, ti9, ti2, ti22, V.cs, abuildSlice, afill, chunks, abuiltin, alen, alenOk, ard, aappend, isSS, AV.isStr, elemOfT, elemId, astrop, aunop, hne, onW_t, onW_f, onV_s]; first | (refine hA _ _ _ ?_ ?_; (focus (first | (simp [G2, pPart, g0, g4, g5, hnx, hr0, hrl, hp, partA, aextract, ti34, ti4, ti9, ti2, ti22, V.cs, abuildSlice, afill, chunks, abuiltin, alen, alenOk, ard, aappend, isSS, AV.isStr, elemOfT, elemId, astrop, aunop, hne]; done) | (simp [G2, pPart, g0, g4, g5, hnx, hr0, hrl, hp, partA, aextract, ti34, ti4, ti9, ti2, ti22, V.cs, abuildSlice, afill, chunks, abuiltin, alen, alenOk, ard, aappend, isSS, AV.isStr, elemOfT, elemId, astrop, aunop, hne]; omega))); clear hA hB A B) | (refine hB ?_; clear hA hB A B))
        | (refine RQ.nl ?_; refine hk _ _ ?_; clear hk k)
        | (refine RW.nl ?_; refine hk _ _ ?_; clear hk k)
        | (refine RW.st fun A B hA hB => ?_; simp [G2, pPart, g0, g4, g5, hnx, hr0, hrl, hp, partA, aextract, ti34, ti4, ti9, ti2, ti22, V.cs, abuildSlice, afill, chunks, abuiltin, alen, alenOk, ard, aappend, isSS, AV.isStr, elemOfT, elemId, astrop, aunop, hne, onW_t, onW_f, onV_s]; first | (refine hA _ _ _ ?_ (by first | exact .inl (by decide) | exact .inr (.inl rfl) | exact .inr (.inr rfl)) (by first | exact .inl (by decide) | exact .inr (.inl (by decide)) | exact .inr (.inr fun s2 => by simp [G2, pPart, g0, g4, g5, hnx, hr0, hrl, hp, partA, aextract, ti34, ti4, ti9, ti2, ti22, V.cs, abuildSlice, afill, chunks, abuiltin, alen, alenOk, ard, aappend, isSS, AV.isStr, elemOfT, elemId, astrop, aunop, hne])) ?_; (focus (first | (simp [G2, pPart, g0, g4, g5, hnx, hr0, hrl, hp, partA, aextract, ti34, ti4, ti9, ti2, ti22, V.cs, abuildSlice, afill, chunks, abuiltin, alen, alenOk, ard, aappend, isSS, AV.isStr, elemOfT, elemId, astrop, aunop, hne]; done) | (simp [G2, pPart, g0, g4, g5, hnx, hr0, hrl, hp, partA, aextract, ti34, ti4, ti9, ti2, ti22, V.cs, abuildSlice, afill, chunks, abuiltin, alen, alenOk, ard, aappend, isSS, AV.isStr, elemOfT, elemId, astrop, aunop, hne]; omega))); clear hA hB A B) | (refine hB ?_; clear hA hB A B))
        | (refine RQ.st fun A B hA hB => ?_; simp [G2, pPart, g0, g4, g5, hnx, hr0, hrl, hp, partA, aextract, ti34, ti4, ti9, ti2, ti22, V.cs, abuildSlice, afill, chunks, abuiltin, alen, alenOk, ard, aappend, isSS, AV.isStr, elemOfT, elemId, astrop, aunop, hne, onW_t, onW_f, onV_s]; first | (refine hA _ _ _ ?_ (by first | exact .inl rfl | exact .inr (by decide)) ?_; (focus (first | (simp [G2, pPart, g0, g4, g5, hnx, hr0, hrl, hp, partA, aextract, ti34, ti4, ti9, ti2, ti22, V.cs, abuildSlice, afill, chunks, abuiltin, alen, alenOk, ard, aappend, isSS, AV.isStr, elemOfT, elemId, astrop, aunop, hne]; done) | (simp [G2, pPart, g0, g4, g5, hnx, hr0, hrl, hp, partA, aextract, ti34, ti4, ti9, ti2, ti22, V.cs, abuildSlice, afill, chunks, abuiltin, alen, alenOk, ard, aappend, isSS, AV.isStr, elemOfT, elemId, astrop, aunop, hne]; omega))); clear hA hB A B) | (refine hB ?_; clear hA hB A B))
        | refine WP.sr fun k hk => ?_ | refine WP.r fun k hk => ?_ | refine WP.sd _ rfl fun k hk => ?_ | refine WP.d _ rfl fun k hk => ?_
        | (refine WP.cc fun A B hA hB => ?_; simp [G2, pPart, g0, g4, g5, hnx, hr0, hrl, hp, partA, aextract, ti34, ti4, ti9, ti2, ti22, V.cs, abuildSlice, afill, chunks, abuiltin, alen, alenOk, ard, aappend, isSS, AV.isStr, elemOfT, elemId, astrop, aunop, hne, onB_t, onB_f]; first | (refine hA ?_; clear hA hB A B) | (refine hB ?_; clear hA hB A B) | (refine onB_if (fun h => hA ?_) (fun h => hB ?_) <;> clear hA hB A B))
        | refine WP.q ?_ | refine WP.b ?_)
      exact ⟨.inr rfl, .tup [.nsl, .int .i64 2], by simp, frz_bad2⟩
    | true =>
      have hpl := part_less hr0 hp
      have hback2 : backS x = (backS r').map ((acc ++ [v]) ++ ·) := by
        rw [hback, backS_step hr0 hp, Option.map_map]
        congr 1
        funext l
        simp
      have hsz2 : r'.length + VsizeL (acc ++ [v]) ≤ x.length := by
        simp only [VsizeL, List.map_append, List.sum_append, List.map_cons, List.map_nil, List.sum_cons, List.sum_nil] at hsz ⊢
        omega
      have hacc2 : ∀ u ∈ acc ++ [v], i64ok u.n = true := fun u hu => by
        rcases List.mem_append.1 hu with h | h
        · exact hacc u h
        · simp at h; subst h; exact hpl.2
      rcases hB with ⟨h0, g4⟩ | ⟨h0, rd, hrd, hrd2, g4, hr⟩
      · subst h0
        repeat' (first
          | refine WP.t ?_ | refine WP.k ?_ | refine WP.e ?_ | refine Qn ?_ | refine Qr ?_ | refine Qe ?_ | refine Bn ?_ | refine Br ?_ | refine Be ?_ | refine Bx (by decide) ?_
          | (refine RS.nl ?_; refine hk _ _ ?_; clear hk k)
          | (refine RS.st fun A B hA hB => ?_; simp [G2, pPart, g0, g4, g5, hnx, hr0, hrl, hp, partA, aextract, ti34, ti4, ti9, ti2, ti22, V.cs, abuildSlice, afill, chunks, abuiltin, alen, alenOk, ard, aappend, isSS, AV.isStr, elemOfT, elemId, astrop, aunop, hne, onW_t, onW_f, onV_s]; first | (refine hA _ _ _ ?_ ?_; (focus (first | (simp [G2, pPart, g0, g4, g5, hnx, hr0, hrl, hp, partA, aextract, ti34, ti4, ti9, ti2, ti22, V.cs, abuildSlice, afill, chunks, abuiltin, alen, alenOk, ard, aappend, isSS, AV.isStr, elemOfT, elemId, astrop, aunop, hne]; done) | (simp [G2, pPart, g0, g4, g5, hnx, hr0, hrl, hp, partA, aextract, ti34, ti4, ti9, ti2, ti22, V.cs, abuildSlice, afill, chunks, abuiltin, alen, alenOk, ard, aappend, isSS, AV.isStr, elemOfT, elemId, astrop, aunop, hne]; omega))); clear hA hB A B) | (refine hB ?_; clear hA hB A B))
          | (refine RQ.nl ?_; refine hk _ _ ?_; clear hk k)
          | (refine RW.nl ?_; refine hk _ _ ?_; clear hk k)
          | (refine RW.st fun A B hA hB => ?_; simp [G2, pPart, g0, g4, g5, hnx, hr0, hrl, hp, partA, aextract, ti34, ti4, ti9, ti2, ti22, V.cs, abuildSlice, afill, chunks, abuiltin, alen, alenOk, ard, aappend, isSS, AV.isStr, elemOfT, elemId, astrop, aunop, hne, onW_t, onW_f, onV_s]; first | (refine hA _ _ _ ?_ (by first | exact .inl (by decide) | exact .inr (.inl rfl) | exact .inr (.inr rfl)) (by first | exact .inl (by decide) | exact .inr (.inl (by decide)) | exact .inr (.inr fun s2 => by simp [G2, pPart, g0, g4, g5, hnx, hr0, hrl, hp, partA, aextract, ti34, ti4, ti9, ti2, ti22, V.cs, abuildSlice, afill, chunks, abuiltin, alen, alenOk, ard, aappend, isSS, AV.isStr, elemOfT, elemId, astrop, aunop, hne])) ?_; (focus (first | (simp [G2, pPart, g0, g4, g5, hnx, hr0, hrl, hp, partA, aextract, ti34, ti4, ti9, ti2, ti22, V.cs, abuildSlice, afill, chunks, abuiltin, alen, alenOk, ard, aappend, isSS, AV.isStr, elemOfT, elemId, astrop, aunop, hne]; done) | (simp [G2, pPart, g0, g4, g5, hnx, hr0, hrl, hp, partA, aextract, ti34, ti4, ti9, ti2, ti22, V.cs, abuildSlice, afill, chunks, abuiltin, alen, alenOk, ard, aappend, isSS, AV.isStr, elemOfT, elemId, astrop, aunop, hne]; omega))); clear hA hB A B) | (refine hB ?_; clear hA hB A B))
          | (refine RQ.st fun A B hA hB => ?_; simp [G2, pPart, g0, g4, g5, hnx, hr0, hrl, hp, partA, aextract, ti34, ti4, ti9, ti2, ti22, V.cs, abuildSlice, afill, chunks, abuiltin, alen, alenOk, ard, aappend, isSS, AV.isStr, elemOfT, elemId, astrop, aunop, hne, onW_t, onW_f, onV_s]; first | (refine hA _ _ _ ?_ (by first | exact .inl rfl | exact .inr (by decide)) ?_; (focus (first | (simp [G2, pPart, g0, g4, g5, hnx, hr0, hrl, hp, partA, aextract, ti34, ti4, ti9, ti2, ti22, V.cs, abuildSlice, afill, chunks, abuiltin, alen, alenOk, ard, aappend, isSS, AV.isStr, elemOfT, elemId, astrop, aunop, hne]; done) | (simp [G2, pPart, g0, g4, g5, hnx, hr0, hrl, hp, partA, aextract, ti34, ti4, ti9, ti2, ti22, V.cs, abuildSlice, afill, chunks, abuiltin, alen, alenOk, ard, aappend, isSS, AV.isStr, elemOfT, elemId, astrop, aunop, hne]; omega))); clear hA hB A B) | (refine hB ?_; clear hA hB A B))
          | refine WP.sr fun k hk => ?_ | refine WP.r fun k hk => ?_ | refine WP.sd _ rfl fun k hk => ?_ | refine WP.d _ rfl fun k hk => ?_
          | (refine WP.cc fun A B hA hB => ?_; simp [G2, pPart, g0, g4, g5, hnx, hr0, hrl, hp, partA, aextract, ti34, ti4, ti9, ti2, ti22, V.cs, abuildSlice, afill, chunks, abuiltin, alen, alenOk, ard, aappend, isSS, AV.isStr, elemOfT, elemId, astrop, aunop, hne, onB_t, onB_f]; first | (refine hA ?_; clear hA hB A B) | (refine hB ?_; clear hA hB A B) | (refine onB_if (fun h => hA ?_) (fun h => hB ?_) <;> clear hA hB A B))
          | refine WP.q ?_ | refine WP.b ?_)
        refine ⟨r'.length, by omega, r', [v], rfl, by simp [g0], by simp, by simp; omega, by simpa using hsz2, by simpa using hacc2, by simpa using hback2, .inr ⟨by simp, s'.nx + 1 + 1, by omega, by simp, by simp, ?_⟩⟩
        simp [V.cs]
      · have n1 : ¬ rd = s'.nx := by omega
        have n2 : ¬ rd = s'.nx + 1 := by omega
        have hby : (acc.length + 1) * 32 ≤ 140737488355328 := by omega
        repeat' (first
          | refine WP.t ?_ | refine WP.k ?_ | refine WP.e ?_ | refine Qn ?_ | refine Qr ?_ | refine Qe ?_ | refine Bn ?_ | refine Br ?_ | refine Be ?_ | refine Bx (by decide) ?_
          | (refine RS.nl ?_; refine hk _ _ ?_; clear hk k)
          | (refine RS.st fun A B hA hB => ?_; simp [G2, pPart, g0, g4, g5, hnx, hr0, hrl, hp, partA, aextract, ti34, ti4, ti9, ti2, ti22, V.cs, abuildSlice, afill, chunks, abuiltin, alen, alenOk, ard, aappend, isSS, AV.isStr, elemOfT, elemId, astrop, aunop, hne, hr, n1, n2, hby, hrd, hrd2, onW_t, onW_f, onV_s]; first | (refine hA _ _ _ ?_ ?_; (focus (first | (simp [G2, pPart, g0, g4, g5, hnx, hr0, hrl, hp, partA, aextract, ti34, ti4, ti9, ti2, ti22, V.cs, abuildSlice, afill, chunks, abuiltin, alen, alenOk, ard, aappend, isSS, AV.isStr, elemOfT, elemId, astrop, aunop, hne, hr, n1, n2, hby, hrd, hrd2]; done) | (simp [G2, pPart, g0, g4, g5, hnx, hr0, hrl, hp, partA, aextract, ti34, ti4, ti9, ti2, ti22, V.cs, abuildSlice, afill, chunks, abuiltin, alen, alenOk, ard, aappend, isSS, AV.isStr, elemOfT, elemId, astrop, aunop, hne, hr, n1, n2, hby, hrd, hrd2]; omega))); clear hA hB A B) | (refine hB ?_; clear hA hB A B))
          | (refine RQ.nl ?_; refine hk _ _ ?_; clear hk k)
          | (refine RW.nl ?_; refine hk _ _ ?_; clear hk k)
          | (refine RW.st fun A B hA hB => ?_; simp [G2, pPart, g0, g4, g5, hnx, hr0, hrl, hp, partA, aextract, ti34, ti4, ti9, ti2, ti22, V.cs, abuildSlice, afill, chunks, abuiltin, alen, alenOk, ard, aappend, isSS, AV.isStr, elemOfT, elemId, astrop, aunop, hne, hr, n1, n2, hby, hrd, hrd2, onW_t, onW_f, onV_s]; first | (refine hA _ _ _ ?_ (by first | exact .inl (by decide) | exact .inr (.inl rfl) | exact .inr (.inr rfl)) (by first | exact .inl (by decide) | exact .inr (.inl (by decide)) | exact .inr (.inr fun s2 => by simp [G2, pPart, g0, g4, g5, hnx, hr0, hrl, hp, partA, aextract, ti34, ti4, ti9, ti2, ti22, V.cs, abuildSlice, afill, chunks, abuiltin, alen, alenOk, ard, aappend, isSS, AV.isStr, elemOfT, elemId, astrop, aunop, hne, hr, n1, n2, hby, hrd, hrd2])) ?_; (focus (first | (simp [G2, pPart, g0, g4, g5, hnx, hr0, hrl, hp, partA, aextract, ti34, ti4, ti9, ti2, ti22, V.cs, abuildSlice, afill, chunks, abuiltin, alen, alenOk, ard, aappend, isSS, AV.isStr, elemOfT, elemId, astrop, aunop, hne, hr, n1, n2, hby, hrd, hrd2]; done) | (simp [G2, pPart, g0, g4, g5, hnx, hr0, hrl, hp, partA, aextract, ti34, ti4, ti9, ti2, ti22, V.cs, abuildSlice, afill, chunks, abuiltin, alen, alenOk, ard, aappend, isSS, AV.isStr, elemOfT, elemId, astrop, aunop, hne, hr, n1, n2, hby, hrd, hrd2]; omega))); clear hA hB A B) | (refine hB ?_; clear hA hB A B))
          | (refine RQ.st fun A B hA hB => ?_; simp [G2, pPart, g0, g4, g5, hnx, hr0, hrl, hp, partA, aextract, ti34, ti4, ti9, ti2, ti22, V.cs, abuildSlice, afill, chunks, abuiltin, alen, alenOk, ard, aappend, isSS, AV.isStr, elemOfT, elemId, astrop, aunop, hne, hr, n1, n2, hby, hrd, hrd2, onW_t, onW_f, onV_s]; first | (refine hA _ _ _ ?_ (by first | exact .inl rfl | exact .inr (by decide)) ?_; (focus (first | (simp [G2, pPart, g0, g4, g5, hnx, hr0, hrl, hp, partA, aextract, ti34, ti4, ti9, ti2, ti22, V.cs, abuildSlice, afill, chunks, abuiltin, alen, alenOk, ard, aappend, isSS, AV.isStr, elemOfT, elemId, astrop, aunop, hne, hr, n1, n2, hby, hrd, hrd2]; done) | (simp [G2, pPart, g0, g4, g5, hnx, hr0, hrl, hp, partA, aextract, ti34, ti4, ti9, ti2, ti22, V.cs, abuildSlice, afill, chunks, abuiltin, alen, alenOk, ard, aappend, isSS, AV.isStr, elemOfT, elemId, astrop, aunop, hne, hr, n1, n2, hby, hrd, hrd2]; omega))); clear hA hB A B) | (refine hB ?_; clear hA hB A B))
          | refine WP.sr fun k hk => ?_ | refine WP.r fun k hk => ?_ | refine WP.sd _ rfl fun k hk => ?_ | refine WP.d _ rfl fun k hk => ?_
          | (refine WP.cc fun A B hA hB => ?_; simp [G2, pPart, g0, g4, g5, hnx, hr0, hrl, hp, partA, aextract, ti34, ti4, ti9, ti2, ti22, V.cs, abuildSlice, afill, chunks, abuiltin, alen, alenOk, ard, aappend, isSS, AV.isStr, elemOfT, elemId, astrop, aunop, hne, hr, n1, n2, hby, hrd, hrd2, onB_t, onB_f]; first | (refine hA ?_; clear hA hB A B) | (refine hB ?_; clear hA hB A B) | (refine onB_if (fun h => hA ?_) (fun h => hB ?_) <;> clear hA hB A B))
          | refine WP.q ?_ | refine WP.b ?_)
        refine ⟨r'.length, by omega, r', acc ++ [v], rfl, by simp [g0], by simp, by simp; omega, hsz2, hacc2, hback2, .inr ⟨by simp, s'.nx + 1 + 1, by omega, by simp, by simp, ?_⟩⟩
        have e2 : ∀ s2 : St, s2.nx = s'.nx + 1 + 1 → ∀ o, (s2.push o).get (s'.nx + 1 + 1) = some o := fun s2 h o => by rw [← h]; exact St.get_push_same _ _
        rw [e2 _ (by simp)]
        simp [V.cs]
def pBack : List AV → Option AV
  | [.str x] => if x.length ≤ 100000000 then some (backA x) else none
  | _ => none
def G3 : Fns := G2.addP 20 pBack
theorem G3_ok (hK : 3 < K) (hT : Tens gw) (hE : Errs gw) : FOk (env K gw) G3 := by
  refine (G2_ok hK hT hE).addP ?_
  intro xs s r h; unfold pBack at h; split at h
  · split at h
    · rename_i hc; cases h; exact ft20 hK hT hE _ hc
    · cases h
  · cases h
end
end Go.Am
