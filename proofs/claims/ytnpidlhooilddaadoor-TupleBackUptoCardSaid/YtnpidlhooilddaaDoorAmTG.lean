/- Part of the proof: abstract values over the given model of Go (T18). Conditions: none of its own; see the statement in the seat's Rows text. -/
import Derived.Test.YtnpidlhooilddaaDoorAmTF
set_option linter.unusedSimpArgs false
set_option linter.unusedVariables false
set_option linter.unusedSectionVars false
namespace Go.Am
open Go.Proofs
section
variable {K : Nat} {gw : World} {s : St}
attribute [local simp] RS_cons' RS_nil RQ_nil RQ_cons' awanted xop zOf zrow aop ev T0 Slots.put Slots.set Slots.get awr WOk AV.may ofConst abinop aint isConst St.get_push St.get_put St.live AV.fit AV.cells AV.one fieldOf afieldAddr aload ofCells astore splice May eqres env_ti FinP ares aresL ares1 Fns.addP Fns.add
set_option maxRecDepth 20000 in
set_option maxHeartbeats 4000000 in
/-- TupleBack: 'u': the row that is told from t's key; 'y': the text. -/
theorem ft8 (hK : 3 < K) (hT : Tens gw) (hE : Errs gw) (t u : List V) (y : List UInt8) (ht : okT t = true) (hk1 : (keyT t).length ≤ 100000000) (hy : y.length ≤ 100000000)
    (hb : backA (keyT t) = .tup [.sl (u.map V.cs), .int .i64 0]) (hu : u.length < LIM) (hc : cmpT u t = 0) :
    FT (env K gw) NoW 8 [.sl (t.map V.cs), .str y] s (.bool true) s := by
  have htl : t.length < LIM := by simp only [okT, Bool.and_eq_true, decide_eq_true_eq] at ht; exact ht.1.1
  refine FT.pure (fn := Tryd.f8) (G3_ok hK hT hE) mixed Tryd.func8 (by kernel_rfl) (by rfl) rfl rfl (by simp) rfl fun μ w => ?_
  have hyy : backA y = .tup [.sl [], .int .i64 2] ∨ ∃ l, okT l = true ∧ keyT l = y ∧ backA y = .tup [.sl (l.map V.cs), .int .i64 0] := by
    unfold backA
    cases h : backS y with
    | none => exact .inl rfl
    | some l =>
      by_cases hk : keyT l = y
      · right
        obtain ⟨h1, h2⟩ := back_size _ _ _ h
        exact ⟨l, ok_of_size l h2 (by omega), hk, by simp only; rw [if_pos hk]⟩
      · left
        simp only
        rw [if_neg hk]
  rcases hyy with hyy | ⟨l, hl1, hl2, hyy⟩
  · skip
    repeat' (first
      | refine WP.t ?_ | refine WP.k ?_ | refine WP.e ?_ | refine Qn ?_ | refine Qr ?_ | refine Qe ?_ | refine Bn ?_ | refine Br ?_ | refine Be ?_ | refine Bx (by decide) ?_
      | (refine RS.nl ?_; refine hk _ _ ?_; clear hk k)
      | (refine RS.st fun A B hA hB => ?_; simp [G3, G2, G1, F13, F12, F11, F10, F9, F8, F7, F6, F5, F4, pShown, pBack, pCmpT, ht, hk1, hy, hb, hyy, hu, hc, htl, aextract, abuiltin, alen, alenOk, ti22, astrop, aunop, onW_t, onW_f, onV_s]; first | (refine hA _ _ _ ?_ ?_; (focus (first | (simp [G3, G2, G1, F13, F12, F11, F10, F9, F8, F7, F6, F5, F4, pShown, pBack, pCmpT, ht, hk1, hy, hb, hyy, hu, hc, htl, aextract, abuiltin, alen, alenOk, ti22, astrop, aunop]; done) | (simp [G3, G2, G1, F13, F12, F11, F10, F9, F8, F7, F6, F5, F4, pShown, pBack, pCmpT, ht, hk1, hy, hb, hyy, hu, hc, htl, aextract, abuiltin, alen, alenOk, ti22, astrop, aunop]; omega))); clear hA hB A B) | (refine hB ?_; clear hA hB A B))
      | (refine RQ.nl ?_; refine hk _ _ ?_; clear hk k)
      | (refine RW.nl ?_; refine hk _ _ ?_; clear hk k)
      | (refine RW.st fun A B hA hB => ?_; simp [G3, G2, G1, F13, F12, F11, F10, F9, F8, F7, F6, F5, F4, pShown, pBack, pCmpT, ht, hk1, hy, hb, hyy, hu, hc, htl, aextract, abuiltin, alen, alenOk, ti22, astrop, aunop, onW_t, onW_f, onV_s]; first | (refine hA _ _ _ ?_ (by first | exact .inl (by decide) | exact .inr (.inl rfl) | exact .inr (.inr rfl)) (by first | exact .inl (by decide) | exact .inr (.inl (by decide)) | exact .inr (.inr fun s2 => by simp [G3, G2, G1, F13, F12, F11, F10, F9, F8, F7, F6, F5, F4, pShown, pBack, pCmpT, ht, hk1, hy, hb, hyy, hu, hc, htl, aextract, abuiltin, alen, alenOk, ti22, astrop, aunop])) ?_; (focus (first | (simp [G3, G2, G1, F13, F12, F11, F10, F9, F8, F7, F6, F5, F4, pShown, pBack, pCmpT, ht, hk1, hy, hb, hyy, hu, hc, htl, aextract, abuiltin, alen, alenOk, ti22, astrop, aunop]; done) | (simp [G3, G2, G1, F13, F12, F11, F10, F9, F8, F7, F6, F5, F4, pShown, pBack, pCmpT, ht, hk1, hy, hb, hyy, hu, hc, htl, aextract, abuiltin, alen, alenOk, ti22, astrop, aunop]; omega))); clear hA hB A B) | (refine hB ?_; clear hA hB A B))
      | (refine RQ.st fun A B hA hB => ?_; simp [G3, G2, G1, F13, F12, F11, F10, F9, F8, F7, F6, F5, F4, pShown, pBack, pCmpT, ht, hk1, hy, hb, hyy, hu, hc, htl, aextract, abuiltin, alen, alenOk, ti22, astrop, aunop, onW_t, onW_f, onV_s]; first | (refine hA _ _ _ ?_ (by first | exact .inl rfl | exact .inr (by decide)) ?_; (focus (first | (simp [G3, G2, G1, F13, F12, F11, F10, F9, F8, F7, F6, F5, F4, pShown, pBack, pCmpT, ht, hk1, hy, hb, hyy, hu, hc, htl, aextract, abuiltin, alen, alenOk, ti22, astrop, aunop]; done) | (simp [G3, G2, G1, F13, F12, F11, F10, F9, F8, F7, F6, F5, F4, pShown, pBack, pCmpT, ht, hk1, hy, hb, hyy, hu, hc, htl, aextract, abuiltin, alen, alenOk, ti22, astrop, aunop]; omega))); clear hA hB A B) | (refine hB ?_; clear hA hB A B))
      | refine WP.sr fun k hk => ?_ | refine WP.r fun k hk => ?_ | refine WP.sd _ rfl fun k hk => ?_ | refine WP.d _ rfl fun k hk => ?_
      | (refine WP.cc fun A B hA hB => ?_; simp [G3, G2, G1, F13, F12, F11, F10, F9, F8, F7, F6, F5, F4, pShown, pBack, pCmpT, ht, hk1, hy, hb, hyy, hu, hc, htl, aextract, abuiltin, alen, alenOk, ti22, astrop, aunop, onB_t, onB_f]; first | (refine hA ?_; clear hA hB A B) | (refine hB ?_; clear hA hB A B) | (refine onB_if (fun h => hA ?_) (fun h => hB ?_) <;> clear hA hB A B))
      | refine WP.q ?_ | refine WP.b ?_)
    simp
  · skip
    repeat' (first
      | refine WP.t ?_ | refine WP.k ?_ | refine WP.e ?_ | refine Qn ?_ | refine Qr ?_ | refine Qe ?_ | refine Bn ?_ | refine Br ?_ | refine Be ?_ | refine Bx (by decide) ?_
      | (refine RS.nl ?_; refine hk _ _ ?_; clear hk k)
      | (refine RS.st fun A B hA hB => ?_; simp [G3, G2, G1, F13, F12, F11, F10, F9, F8, F7, F6, F5, F4, pShown, pBack, pCmpT, ht, hk1, hy, hb, hyy, hu, hc, htl, hl1, hl2, aextract, abuiltin, alen, alenOk, ti22, astrop, aunop, onW_t, onW_f, onV_s]; first | (refine hA _ _ _ ?_ ?_; (focus (first | (simp [G3, G2, G1, F13, F12, F11, F10, F9, F8, F7, F6, F5, F4, pShown, pBack, pCmpT, ht, hk1, hy, hb, hyy, hu, hc, htl, hl1, hl2, aextract, abuiltin, alen, alenOk, ti22, astrop, aunop]; done) | (simp [G3, G2, G1, F13, F12, F11, F10, F9, F8, F7, F6, F5, F4, pShown, pBack, pCmpT, ht, hk1, hy, hb, hyy, hu, hc, htl, hl1, hl2, aextract, abuiltin, alen, alenOk, ti22, astrop, aunop]; omega))); clear hA hB A B) | (refine hB ?_; clear hA hB A B))
      | (refine RQ.nl ?_; refine hk _ _ ?_; clear hk k)
      | (refine RW.nl ?_; refine hk _ _ ?_; clear hk k)
      | (refine RW.st fun A B hA hB => ?_; simp [G3, G2, G1, F13, F12, F11, F10, F9, F8, F7, F6, F5, F4, pShown, pBack, pCmpT, ht, hk1, hy, hb, hyy, hu, hc, htl, hl1, hl2, aextract, abuiltin, alen, alenOk, ti22, astrop, aunop, onW_t, onW_f, onV_s]; first | (refine hA _ _ _ ?_ (by first | exact .inl (by decide) | exact .inr (.inl rfl) | exact .inr (.inr rfl)) (by first | exact .inl (by decide) | exact .inr (.inl (by decide)) | exact .inr (.inr fun s2 => by simp [G3, G2, G1, F13, F12, F11, F10, F9, F8, F7, F6, F5, F4, pShown, pBack, pCmpT, ht, hk1, hy, hb, hyy, hu, hc, htl, hl1, hl2, aextract, abuiltin, alen, alenOk, ti22, astrop, aunop])) ?_; (focus (first | (simp [G3, G2, G1, F13, F12, F11, F10, F9, F8, F7, F6, F5, F4, pShown, pBack, pCmpT, ht, hk1, hy, hb, hyy, hu, hc, htl, hl1, hl2, aextract, abuiltin, alen, alenOk, ti22, astrop, aunop]; done) | (simp [G3, G2, G1, F13, F12, F11, F10, F9, F8, F7, F6, F5, F4, pShown, pBack, pCmpT, ht, hk1, hy, hb, hyy, hu, hc, htl, hl1, hl2, aextract, abuiltin, alen, alenOk, ti22, astrop, aunop]; omega))); clear hA hB A B) | (refine hB ?_; clear hA hB A B))
      | (refine RQ.st fun A B hA hB => ?_; simp [G3, G2, G1, F13, F12, F11, F10, F9, F8, F7, F6, F5, F4, pShown, pBack, pCmpT, ht, hk1, hy, hb, hyy, hu, hc, htl, hl1, hl2, aextract, abuiltin, alen, alenOk, ti22, astrop, aunop, onW_t, onW_f, onV_s]; first | (refine hA _ _ _ ?_ (by first | exact .inl rfl | exact .inr (by decide)) ?_; (focus (first | (simp [G3, G2, G1, F13, F12, F11, F10, F9, F8, F7, F6, F5, F4, pShown, pBack, pCmpT, ht, hk1, hy, hb, hyy, hu, hc, htl, hl1, hl2, aextract, abuiltin, alen, alenOk, ti22, astrop, aunop]; done) | (simp [G3, G2, G1, F13, F12, F11, F10, F9, F8, F7, F6, F5, F4, pShown, pBack, pCmpT, ht, hk1, hy, hb, hyy, hu, hc, htl, hl1, hl2, aextract, abuiltin, alen, alenOk, ti22, astrop, aunop]; omega))); clear hA hB A B) | (refine hB ?_; clear hA hB A B))
      | refine WP.sr fun k hk => ?_ | refine WP.r fun k hk => ?_ | refine WP.sd _ rfl fun k hk => ?_ | refine WP.d _ rfl fun k hk => ?_
      | (refine WP.cc fun A B hA hB => ?_; simp [G3, G2, G1, F13, F12, F11, F10, F9, F8, F7, F6, F5, F4, pShown, pBack, pCmpT, ht, hk1, hy, hb, hyy, hu, hc, htl, hl1, hl2, aextract, abuiltin, alen, alenOk, ti22, astrop, aunop, onB_t, onB_f]; first | (refine hA ?_; clear hA hB A B) | (refine hB ?_; clear hA hB A B) | (refine onB_if (fun h => hA ?_) (fun h => hB ?_) <;> clear hA hB A B))
      | refine WP.q ?_ | refine WP.b ?_)
    simp
end
end Go.Am
