/- Part of the proof: abstract values over the given model of Go (R1, R2, R3). Conditions: none of its own; see the statement in the seat's Rows text. -/
import Derived.Test.YtkfociekgeldnaaDoorAmUb
set_option linter.unusedSimpArgs false
set_option linter.unusedVariables false
set_option linter.unusedSectionVars false
namespace Go.Am
open Go.Proofs
theorem wrap8 {x : Int} (h0 : 0 ≤ x) (h1 : x ≤ 255) : IntKind.u8.wrap x = x := by
  have : IntKind.u8.wrap x = x % 256 := rfl
  rw [this]; omega
theorem byte_eq (c : Nat) (h : c < 10) : UInt8.ofNat (IntKind.u8.wrap (48 + (c : Int))).toNat = UInt8.ofNat (48 + c) := by
  rw [wrap8 (by omega) (by omega)]; congr 1
theorem dec_small {u : Nat} (h : u < 10) : Lib.decDigits u = [UInt8.ofNat (48 + u)] := by rw [Lib.decDigits, dif_pos h]
theorem dec_big {u : Nat} (h : ¬ u < 10) : Lib.decDigits u = Lib.decDigits (u / 10) ++ [UInt8.ofNat (48 + u % 10)] := by rw [Lib.decDigits, dif_neg h]
theorem itoa_nn {n : Int} (h : ¬ n < 0) : Lib.itoa n = Lib.decDigits n.toNat := by unfold Lib.itoa; rw [if_neg h]
theorem itoa_ng {n : Int} (h : n < 0) : Lib.itoa n = 45 :: Lib.decDigits n.natAbs := by unfold Lib.itoa; rw [if_pos h]
section
variable {K : Nat} {gw : World} {s : St}
attribute [local simp] awanted xop zOf zrow aop ev T0 Slots.put Slots.set Slots.get awr WOk AV.may ofConst abinop aint isConst St.get_push St.get_put St.live AV.fit AV.cells AV.one fieldOf afieldAddr aload ofCells astore splice May eqres env_ti FinP FinZ FinW ares aresL ares1 Fns.addP Fns.add Fns.a0 Fns.a1 Fns.a2 Fns.a3 Fns.a4 abuiltin alenOk alen aindex elemOfT elemId abuildSlice afill chunks ard aappend isSS AV.isStr aminmax placesOf abuild afield aidx isStrD isStrDesc astrop aslice asliceOk abound arange anext aextract aunop aeq AV.ck avseq aveq aconv aconvert onB_t onB_f List.range_succ ti0 ti1 ti2 ti3 ti4 ti5 ti6 ti7 ti8 ti9 ti10 ti11 ti12 ti13 ti14 ti15 ti16 ti17 ti18 ti19 ti20 ti21 ti22 ti23 ti24 ti25 ti26 ti27 ti28 ti29 ti30 ti31 ti32 ti33 ti34 ti35 ti36 ti37 ti38 ti39 ti40 ti41 ti42 ti43 ti44 ti45 ti46 ti47 ti48 ti49 ti50 ti51 ti52 ti53 ti54 ti55 ti56 ti57 ti58 ti59 ti60 ti61 ti62 ti63 ti64 ti65 ti66 ti67 ti68 ti69 ti70 ti71 ti72 ti73 ti74 ti75 ti76 ti77 ti78 ti79 ti80 ti81 ti82 ti83 ti84 ti85 ti86 ti87 ti88 ti89 ti90 ti91 ti92 ti93 ti94 ti95 ti96 ti97 ti98 ti99 ti100 ti101
def pFig (m : Nat) : List AV → Option AV
  | [.int .i64 n] => if i64ok n = true ∧ n.natAbs < m then some (.str (Lib.itoa n)) else none
  | _ => none
set_option maxRecDepth 20000 in
theorem ft_Figs (m : Nat) (hF : FOk (env K gw) (F0.addP 64 (pFig m))) (n : Int) (h : i64ok n = true) (hn : n.natAbs < m + 1) : FT (env K gw) NoW 64 [.int .i64 n] s (.str (Lib.itoa n)) s := by
  refine FT.pure (fn := Tryd.f64) hF mixed Tryd.func64 (by kernel_rfl) (by rfl) rfl rfl (by simp) rfl fun μ w => ?_
  have hi := h
  simp only [i64ok, decide_eq_true_eq] at hi
  have hx1 : 0 < K ∨ True := .inr trivial
  by_cases h0 : n < 0
  · have e1 : n.tmod 10 = -((-n) % 10) := by
      have := Int.neg_tmod (-n) 10
      rw [Int.neg_neg] at this
      rw [this, Int.tmod_eq_emod_of_nonneg (by omega)]
    have e3 : n.tdiv 10 = -((-n) / 10) := by
      have := Int.neg_tdiv (-n) 10
      rw [Int.neg_neg] at this
      rw [this, Int.tdiv_eq_ediv_of_nonneg (by omega)]
    have e2 : 48 - n.tmod 10 = ((48 + n.natAbs % 10 : Nat) : Int) := by omega
    have w1 : IntKind.i64.wrap (48 - n.tmod 10) = ((48 + n.natAbs % 10 : Nat) : Int) := by rw [e2]; exact wrap64 (by omega) (by omega)
    have hbb := byte_eq (n.natAbs % 10) (by omega)
    by_cases h1 : -10 < n
    · have hr : Lib.itoa n = 45 :: [UInt8.ofNat (48 + n.natAbs % 10)] := by
        rw [itoa_ng h0, dec_small (by omega), Nat.mod_eq_of_lt (by omega)]
      rw [hr]
      generalize hc : n.natAbs % 10 = c at *
      generalize hb8 : UInt8.ofNat (48 + c) = bb at *
      repeat' (first
        | refine WP.t ?_ | refine WP.k ?_ | refine WP.e ?_ | refine Qn ?_ | refine Qr ?_ | refine Qe ?_ | refine Bn ?_ | refine Br ?_ | refine Be ?_ | refine Bx (by decide) ?_
        | (refine RS.nl ?_; refine hk _ _ ?_; clear hk k)
        | (refine RS.st fun A B hA hB => ?_; simp [h0, h1, pFig, w1, hbb, byteOf, onW_t, onW_f, onV_s]; first | (refine hA _ _ _ ?_ ?_; (focus (first | (simp [h0, h1, pFig, w1, hbb, byteOf]; done) | (simp [h0, h1, pFig, w1, hbb, byteOf]; omega))); clear hA hB A B) | (refine hB ?_; clear hA hB A B) | (refine onV_if ?_ ?_; (focus (first | omega | (refine ⟨?_, ?_⟩ <;> omega))); simp only [onV_s]; refine hA _ _ _ ?_ ?_; (focus (first | (simp [h0, h1, pFig, w1, hbb, byteOf]; done) | (simp [h0, h1, pFig, w1, hbb, byteOf]; omega))); clear hA hB A B))
        | (refine RQ.nl ?_; refine hk _ _ ?_; clear hk k)
        | (refine RQ.st fun A B hA hB => ?_; simp [h0, h1, pFig, w1, hbb, byteOf, onW_t, onW_f, onV_s]; first | (refine hA _ _ _ ?_ (by first | exact .inl rfl | exact .inr (by decide)) ?_; (focus (first | (simp [h0, h1, pFig, w1, hbb, byteOf]; done) | (simp [h0, h1, pFig, w1, hbb, byteOf]; omega))); clear hA hB A B) | (refine hB ?_; clear hA hB A B) | (refine onV_if ?_ ?_; (focus (first | omega | (refine ⟨?_, ?_⟩ <;> omega))); simp only [onV_s]; refine hA _ _ _ ?_ (by first | exact .inl rfl | exact .inr (by decide)) ?_; (focus (first | (simp [h0, h1, pFig, w1, hbb, byteOf]; done) | (simp [h0, h1, pFig, w1, hbb, byteOf]; omega))); clear hA hB A B))
        | refine WP.sr fun k hk => ?_ | refine WP.r fun k hk => ?_
        | refine WP.sd _ rfl fun k hk => ?_ | refine WP.d _ rfl fun k hk => ?_
        | (refine WP.cc fun A B hA hB => ?_; simp [h0, h1, pFig, w1, hbb, byteOf, onB_t, onB_f]; first | (refine hA ?_; clear hA hB A B) | (refine hB ?_; clear hA hB A B) | (refine onB_if (fun h => hA ?_) (fun h => hB ?_) <;> clear hA hB A B))
        | refine WP.q ?_ | refine WP.b ?_)
      simp
    · generalize hq : n.tdiv 10 = q at *
      have hqok : i64ok q = true := by simp only [i64ok, decide_eq_true_eq]; omega
      have hqn : q.natAbs < m := by omega
      have wq : IntKind.i64.wrap q = q := wrap64 (by omega) (by omega)
      have hr : Lib.itoa n = Lib.itoa q ++ [UInt8.ofNat (48 + n.natAbs % 10)] := by
        rw [itoa_ng h0, itoa_ng (by omega), dec_big (by omega), List.cons_append]
        congr 3
        omega
      have hlen := Lib.itoa_length_le q (by simp only [i64ok, decide_eq_true_eq] at hqok; exact hqok.1) (by simp only [i64ok, decide_eq_true_eq] at hqok; exact hqok.2)
      have hlen2 : (Lib.itoa q).length + 1 ≤ 9223372036854775807 := by omega
      rw [hr]
      generalize hc : n.natAbs % 10 = c at *
      generalize hb8 : UInt8.ofNat (48 + c) = bb at *
      repeat' (first
        | refine WP.t ?_ | refine WP.k ?_ | refine WP.e ?_ | refine Qn ?_ | refine Qr ?_ | refine Qe ?_ | refine Bn ?_ | refine Br ?_ | refine Be ?_ | refine Bx (by decide) ?_
        | (refine RS.nl ?_; refine hk _ _ ?_; clear hk k)
        | (refine RS.st fun A B hA hB => ?_; simp [h0, h1, pFig, hq, hqok, hqn, w1, hbb, wq, hlen2, byteOf, onW_t, onW_f, onV_s]; first | (refine hA _ _ _ ?_ ?_; (focus (first | (simp [h0, h1, pFig, hq, hqok, hqn, w1, hbb, wq, hlen2, byteOf]; done) | (simp [h0, h1, pFig, hq, hqok, hqn, w1, hbb, wq, hlen2, byteOf]; omega))); clear hA hB A B) | (refine hB ?_; clear hA hB A B) | (refine onV_if ?_ ?_; (focus (first | omega | (refine ⟨?_, ?_⟩ <;> omega))); simp only [onV_s]; refine hA _ _ _ ?_ ?_; (focus (first | (simp [h0, h1, pFig, hq, hqok, hqn, w1, hbb, wq, hlen2, byteOf]; done) | (simp [h0, h1, pFig, hq, hqok, hqn, w1, hbb, wq, hlen2, byteOf]; omega))); clear hA hB A B))
        | (refine RQ.nl ?_; refine hk _ _ ?_; clear hk k)
        | (refine RQ.st fun A B hA hB => ?_; simp [h0, h1, pFig, hq, hqok, hqn, w1, hbb, wq, hlen2, byteOf, onW_t, onW_f, onV_s]; first | (refine hA _ _ _ ?_ (by first | exact .inl rfl | exact .inr (by decide)) ?_; (focus (first | (simp [h0, h1, pFig, hq, hqok, hqn, w1, hbb, wq, hlen2, byteOf]; done) | (simp [h0, h1, pFig, hq, hqok, hqn, w1, hbb, wq, hlen2, byteOf]; omega))); clear hA hB A B) | (refine hB ?_; clear hA hB A B) | (refine onV_if ?_ ?_; (focus (first | omega | (refine ⟨?_, ?_⟩ <;> omega))); simp only [onV_s]; refine hA _ _ _ ?_ (by first | exact .inl rfl | exact .inr (by decide)) ?_; (focus (first | (simp [h0, h1, pFig, hq, hqok, hqn, w1, hbb, wq, hlen2, byteOf]; done) | (simp [h0, h1, pFig, hq, hqok, hqn, w1, hbb, wq, hlen2, byteOf]; omega))); clear hA hB A B))
        | refine WP.sr fun k hk => ?_ | refine WP.r fun k hk => ?_
        | refine WP.sd _ rfl fun k hk => ?_ | refine WP.d _ rfl fun k hk => ?_
        | (refine WP.cc fun A B hA hB => ?_; simp [h0, h1, pFig, hq, hqok, hqn, w1, hbb, wq, hlen2, byteOf, onB_t, onB_f]; first | (refine hA ?_; clear hA hB A B) | (refine hB ?_; clear hA hB A B) | (refine onB_if (fun h => hA ?_) (fun h => hB ?_) <;> clear hA hB A B))
        | refine WP.q ?_ | refine WP.b ?_)
      simp
  · have hnn : 0 ≤ n := by omega
    have e1 : n.tmod 10 = ((n.toNat % 10 : Nat) : Int) := by rw [Int.tmod_eq_emod_of_nonneg hnn]; omega
    have e3 : n.tdiv 10 = n / 10 := Int.tdiv_eq_ediv_of_nonneg hnn
    by_cases h1 : n < 10
    · have hr : Lib.itoa n = [UInt8.ofNat (48 + n.toNat)] := by rw [itoa_nn h0, dec_small (by omega)]
      have e2 : 48 + n = ((48 + n.toNat : Nat) : Int) := by omega
      have w1 : IntKind.i64.wrap (48 + n) = ((48 + n.toNat : Nat) : Int) := by rw [e2]; exact wrap64 (by omega) (by omega)
      have hbb := byte_eq n.toNat (by omega)
      rw [hr]
      generalize hc : n.toNat = c at *
      generalize hb8 : UInt8.ofNat (48 + c) = bb at *
      repeat' (first
        | refine WP.t ?_ | refine WP.k ?_ | refine WP.e ?_ | refine Qn ?_ | refine Qr ?_ | refine Qe ?_ | refine Bn ?_ | refine Br ?_ | refine Be ?_ | refine Bx (by decide) ?_
        | (refine RS.nl ?_; refine hk _ _ ?_; clear hk k)
        | (refine RS.st fun A B hA hB => ?_; simp [h0, h1, pFig, w1, hbb, byteOf, onW_t, onW_f, onV_s]; first | (refine hA _ _ _ ?_ ?_; (focus (first | (simp [h0, h1, pFig, w1, hbb, byteOf]; done) | (simp [h0, h1, pFig, w1, hbb, byteOf]; omega))); clear hA hB A B) | (refine hB ?_; clear hA hB A B) | (refine onV_if ?_ ?_; (focus (first | omega | (refine ⟨?_, ?_⟩ <;> omega))); simp only [onV_s]; refine hA _ _ _ ?_ ?_; (focus (first | (simp [h0, h1, pFig, w1, hbb, byteOf]; done) | (simp [h0, h1, pFig, w1, hbb, byteOf]; omega))); clear hA hB A B))
        | (refine RQ.nl ?_; refine hk _ _ ?_; clear hk k)
        | (refine RQ.st fun A B hA hB => ?_; simp [h0, h1, pFig, w1, hbb, byteOf, onW_t, onW_f, onV_s]; first | (refine hA _ _ _ ?_ (by first | exact .inl rfl | exact .inr (by decide)) ?_; (focus (first | (simp [h0, h1, pFig, w1, hbb, byteOf]; done) | (simp [h0, h1, pFig, w1, hbb, byteOf]; omega))); clear hA hB A B) | (refine hB ?_; clear hA hB A B) | (refine onV_if ?_ ?_; (focus (first | omega | (refine ⟨?_, ?_⟩ <;> omega))); simp only [onV_s]; refine hA _ _ _ ?_ (by first | exact .inl rfl | exact .inr (by decide)) ?_; (focus (first | (simp [h0, h1, pFig, w1, hbb, byteOf]; done) | (simp [h0, h1, pFig, w1, hbb, byteOf]; omega))); clear hA hB A B))
        | refine WP.sr fun k hk => ?_ | refine WP.r fun k hk => ?_
        | refine WP.sd _ rfl fun k hk => ?_ | refine WP.d _ rfl fun k hk => ?_
        | (refine WP.cc fun A B hA hB => ?_; simp [h0, h1, pFig, w1, hbb, byteOf, onB_t, onB_f]; first | (refine hA ?_; clear hA hB A B) | (refine hB ?_; clear hA hB A B) | (refine onB_if (fun h => hA ?_) (fun h => hB ?_) <;> clear hA hB A B))
        | refine WP.q ?_ | refine WP.b ?_)
      simp
    · have e2 : 48 + n.tmod 10 = ((48 + n.toNat % 10 : Nat) : Int) := by omega
      have w1 : IntKind.i64.wrap (48 + n.tmod 10) = ((48 + n.toNat % 10 : Nat) : Int) := by rw [e2]; exact wrap64 (by omega) (by omega)
      have hbb := byte_eq (n.toNat % 10) (by omega)
      generalize hq : n.tdiv 10 = q at *
      have hqok : i64ok q = true := by simp only [i64ok, decide_eq_true_eq]; omega
      have hqn : q.natAbs < m := by omega
      have wq : IntKind.i64.wrap q = q := wrap64 (by omega) (by omega)
      have hr : Lib.itoa n = Lib.itoa q ++ [UInt8.ofNat (48 + n.toNat % 10)] := by
        rw [itoa_nn h0, itoa_nn (by omega), dec_big (by omega)]
        congr 2
        omega
      have hlen := Lib.itoa_length_le q (by simp only [i64ok, decide_eq_true_eq] at hqok; exact hqok.1) (by simp only [i64ok, decide_eq_true_eq] at hqok; exact hqok.2)
      have hlen2 : (Lib.itoa q).length + 1 ≤ 9223372036854775807 := by omega
      rw [hr]
      generalize hc : n.toNat % 10 = c at *
      generalize hb8 : UInt8.ofNat (48 + c) = bb at *
      repeat' (first
        | refine WP.t ?_ | refine WP.k ?_ | refine WP.e ?_ | refine Qn ?_ | refine Qr ?_ | refine Qe ?_ | refine Bn ?_ | refine Br ?_ | refine Be ?_ | refine Bx (by decide) ?_
        | (refine RS.nl ?_; refine hk _ _ ?_; clear hk k)
        | (refine RS.st fun A B hA hB => ?_; simp [h0, h1, pFig, hq, hqok, hqn, w1, hbb, wq, hlen2, byteOf, onW_t, onW_f, onV_s]; first | (refine hA _ _ _ ?_ ?_; (focus (first | (simp [h0, h1, pFig, hq, hqok, hqn, w1, hbb, wq, hlen2, byteOf]; done) | (simp [h0, h1, pFig, hq, hqok, hqn, w1, hbb, wq, hlen2, byteOf]; omega))); clear hA hB A B) | (refine hB ?_; clear hA hB A B) | (refine onV_if ?_ ?_; (focus (first | omega | (refine ⟨?_, ?_⟩ <;> omega))); simp only [onV_s]; refine hA _ _ _ ?_ ?_; (focus (first | (simp [h0, h1, pFig, hq, hqok, hqn, w1, hbb, wq, hlen2, byteOf]; done) | (simp [h0, h1, pFig, hq, hqok, hqn, w1, hbb, wq, hlen2, byteOf]; omega))); clear hA hB A B))
        | (refine RQ.nl ?_; refine hk _ _ ?_; clear hk k)
        | (refine RQ.st fun A B hA hB => ?_; simp [h0, h1, pFig, hq, hqok, hqn, w1, hbb, wq, hlen2, byteOf, onW_t, onW_f, onV_s]; first | (refine hA _ _ _ ?_ (by first | exact .inl rfl | exact .inr (by decide)) ?_; (focus (first | (simp [h0, h1, pFig, hq, hqok, hqn, w1, hbb, wq, hlen2, byteOf]; done) | (simp [h0, h1, pFig, hq, hqok, hqn, w1, hbb, wq, hlen2, byteOf]; omega))); clear hA hB A B) | (refine hB ?_; clear hA hB A B) | (refine onV_if ?_ ?_; (focus (first | omega | (refine ⟨?_, ?_⟩ <;> omega))); simp only [onV_s]; refine hA _ _ _ ?_ (by first | exact .inl rfl | exact .inr (by decide)) ?_; (focus (first | (simp [h0, h1, pFig, hq, hqok, hqn, w1, hbb, wq, hlen2, byteOf]; done) | (simp [h0, h1, pFig, hq, hqok, hqn, w1, hbb, wq, hlen2, byteOf]; omega))); clear hA hB A B))
        | refine WP.sr fun k hk => ?_ | refine WP.r fun k hk => ?_
        | refine WP.sd _ rfl fun k hk => ?_ | refine WP.d _ rfl fun k hk => ?_
        | (refine WP.cc fun A B hA hB => ?_; simp [h0, h1, pFig, hq, hqok, hqn, w1, hbb, wq, hlen2, byteOf, onB_t, onB_f]; first | (refine hA ?_; clear hA hB A B) | (refine hB ?_; clear hA hB A B) | (refine onB_if (fun h => hA ?_) (fun h => hB ?_) <;> clear hA hB A B))
        | refine WP.q ?_ | refine WP.b ?_)
      simp
theorem ft_Fig : ∀ (m : Nat) (n : Int) (s : St), i64ok n = true → n.natAbs < m → FT (env K gw) NoW 64 [.int .i64 n] s (.str (Lib.itoa n)) s := by
  intro m
  induction m with
  | zero => intro n s _ h; omega
  | succ m ih =>
    intro n s h hn
    refine ft_Figs m (F0_ok.addP fun xs s r hr => ?_) n h hn
    unfold pFig at hr
    split at hr
    · split at hr
      · rename_i hc; cases hr; exact ih _ _ hc.1 hc.2
      · cases hr
    · cases hr
def RA : Fns := F0.a1 64 (vInt .i64) fun n => if i64ok n then some (.str (Lib.itoa n)) else none
theorem RA_ok : FOk (env K gw) RA := F0_ok.a1 fun n s r h => by split at h <;> cases h; exact ft_Fig _ n s ‹_› (Nat.lt_succ_self _)
theorem ft_figures (n : Int) (h : i64ok n = true) : FT (env K gw) NoW 51 [.int .i64 n] s (.str (Lib.itoa n)) s := by
  refine FT.pure (fn := Tryd.f51) RA_ok mixed Tryd.func51 (by kernel_rfl) (by rfl) rfl rfl (by simp) rfl fun μ w => ?_
  repeat' (first
    | refine WP.t ?_ | refine WP.k ?_ | refine WP.e ?_ | refine Qn ?_ | refine Qr ?_ | refine Qe ?_ | refine Bn ?_ | refine Br ?_ | refine Be ?_ | refine Bx (by decide) ?_
    | (refine RS.nl ?_; refine hk _ _ ?_; clear hk k)
    | (refine RS.st fun A B hA hB => ?_; simp [RA, h, onW_t, onW_f, onV_s]; first | (refine hA _ _ _ ?_ ?_; (focus (first | (simp [RA, h]; done) | (simp [RA, h]; omega))); clear hA hB A B) | (refine hB ?_; clear hA hB A B) | (refine onV_if ?_ ?_; (focus (first | omega | (refine ⟨?_, ?_⟩ <;> omega))); simp only [onV_s]; refine hA _ _ _ ?_ ?_; (focus (first | (simp [RA, h]; done) | (simp [RA, h]; omega))); clear hA hB A B))
    | (refine RQ.nl ?_; refine hk _ _ ?_; clear hk k)
    | (refine RQ.st fun A B hA hB => ?_; simp [RA, h, onW_t, onW_f, onV_s]; first | (refine hA _ _ _ ?_ (by first | exact .inl rfl | exact .inr (by decide)) ?_; (focus (first | (simp [RA, h]; done) | (simp [RA, h]; omega))); clear hA hB A B) | (refine hB ?_; clear hA hB A B) | (refine onV_if ?_ ?_; (focus (first | omega | (refine ⟨?_, ?_⟩ <;> omega))); simp only [onV_s]; refine hA _ _ _ ?_ (by first | exact .inl rfl | exact .inr (by decide)) ?_; (focus (first | (simp [RA, h]; done) | (simp [RA, h]; omega))); clear hA hB A B))
    | refine WP.sr fun k hk => ?_ | refine WP.r fun k hk => ?_
    | refine WP.sd _ rfl fun k hk => ?_ | refine WP.d _ rfl fun k hk => ?_
    | (refine WP.cc fun A B hA hB => ?_; simp [RA, h, onB_t, onB_f]; first | (refine hA ?_; clear hA hB A B) | (refine hB ?_; clear hA hB A B) | (refine onB_if (fun h => hA ?_) (fun h => hB ?_) <;> clear hA hB A B))
    | refine WP.q ?_ | refine WP.b ?_)
  simp
end
end Go.Am
namespace Go.Am
open Go.Proofs Go.Shelf
section
variable {K : Nat} {gw : World} {s : St}
attribute [local simp] awanted xop zOf zrow aop ev T0 Slots.put Slots.set Slots.get awr WOk AV.may ofConst abinop aint isConst St.get_push St.get_put St.live AV.fit AV.cells AV.one fieldOf afieldAddr aload ofCells astore splice May eqres env_ti FinP FinZ FinW ares aresL ares1 Fns.addP Fns.add Fns.a0 Fns.a1 Fns.a2 Fns.a3 Fns.a4 abuiltin alenOk alen aindex elemOfT elemId abuildSlice afill chunks ard aappend isSS AV.isStr aminmax placesOf abuild afield aidx isStrD isStrDesc astrop aslice asliceOk abound arange anext aextract aunop aeq AV.ck avseq aveq aconv aconvert onB_t onB_f List.range_succ ti0 ti1 ti2 ti3 ti4 ti5 ti6 ti7 ti8 ti9 ti10 ti11 ti12 ti13 ti14 ti15 ti16 ti17 ti18 ti19 ti20 ti21 ti22 ti23 ti24 ti25 ti26 ti27 ti28 ti29 ti30 ti31 ti32 ti33 ti34 ti35 ti36 ti37 ti38 ti39 ti40 ti41 ti42 ti43 ti44 ti45 ti46 ti47 ti48 ti49 ti50 ti51 ti52 ti53 ti54 ti55 ti56 ti57 ti58 ti59 ti60 ti61 ti62 ti63 ti64 ti65 ti66 ti67 ti68 ti69 ti70 ti71 ti72 ti73 ti74 ti75 ti76 ti77 ti78 ti79 ti80 ti81 ti82 ti83 ti84 ti85 ti86 ti87 ti88 ti89 ti90 ti91 ti92 ti93 ti94 ti95 ti96 ti97 ti98 ti99 ti100 ti101
def inB (x : Str) (l : List Str) : Bool := l.any fun y => y == x
theorem ft_in (x : Str) (l : List Str) (hl : l.length < LIM) : FT (env K gw) NoW 40 [.str x, .sl (l.map sc)] s (.bool (inB x l)) s := by
  refine FT.pure (fn := Tryd.f40) F0_ok mixed Tryd.func40 (by kernel_rfl) (by rfl) rfl rfl (by simp) rfl fun μ w => ?_
  repeat' (first
    | refine WP.t ?_ | refine WP.k ?_ | refine WP.e ?_ | refine Qn ?_ | refine Qr ?_ | refine Qe ?_ | refine Bn ?_ | refine Br ?_ | refine Be ?_ | refine Bx (by decide) ?_
    | (refine RS.nl ?_; refine hk _ _ ?_; clear hk k)
    | (refine RS.st fun A B hA hB => ?_; simp [onW_t, onW_t, onW_f, onV_s]; first | (refine hA _ _ _ ?_ ?_; (focus (first | (simp [onW_t]; done) | (simp [onW_t]; omega))); clear hA hB A B) | (refine hB ?_; clear hA hB A B) | (refine onV_if ?_ ?_; (focus (first | omega | (refine ⟨?_, ?_⟩ <;> omega))); simp only [onV_s]; refine hA _ _ _ ?_ ?_; (focus (first | (simp [onW_t]; done) | (simp [onW_t]; omega))); clear hA hB A B))
    | (refine RQ.nl ?_; refine hk _ _ ?_; clear hk k)
    | (refine RQ.st fun A B hA hB => ?_; simp [onW_t, onW_t, onW_f, onV_s]; first | (refine hA _ _ _ ?_ (by first | exact .inl rfl | exact .inr (by decide)) ?_; (focus (first | (simp [onW_t]; done) | (simp [onW_t]; omega))); clear hA hB A B) | (refine hB ?_; clear hA hB A B) | (refine onV_if ?_ ?_; (focus (first | omega | (refine ⟨?_, ?_⟩ <;> omega))); simp only [onV_s]; refine hA _ _ _ ?_ (by first | exact .inl rfl | exact .inr (by decide)) ?_; (focus (first | (simp [onW_t]; done) | (simp [onW_t]; omega))); clear hA hB A B))
    | refine WP.sr fun k hk => ?_ | refine WP.r fun k hk => ?_
    | refine WP.sd _ rfl fun k hk => ?_ | refine WP.d _ rfl fun k hk => ?_
    | (refine WP.cc fun A B hA hB => ?_; simp [onW_t, onB_t, onB_f]; first | (refine hA ?_; clear hA hB A B) | (refine hB ?_; clear hA hB A B) | (refine onB_if (fun h => hA ?_) (fun h => hB ?_) <;> clear hA hB A B))
    | refine WP.q ?_ | refine WP.b ?_)
  refine WP_loopS (fun i : Nat => [(0, .str x), (1, .sl (l.map sc)), (5, .int .i64 i)]) (fun i s' => i ≤ l.length ∧ s' = s ∧ inB x (l.take i) = false) (fun i => l.length - i) 0 (by simp) ⟨by omega, rfl, rfl⟩ ?_
  rintro i _ ⟨hi, rfl, ht⟩
  by_cases hi2 : i < l.length
  · have hx : l[i]? = some l[i] := List.getElem?_eq_getElem hi2
    have htk : l.take (i + 1) = l.take i ++ [l[i]] := List.take_succ_eq_append_getElem hi2
    have hw := wrap_succ hi2 hl
    have hm : l[i] ∈ l := List.getElem_mem hi2
    generalize hv : l[i] = y at *
    cases he : (y == x)
    · skip
      repeat' (first
        | refine WP.t ?_ | refine WP.k ?_ | refine WP.e ?_ | refine Qn ?_ | refine Qr ?_ | refine Qe ?_ | refine Bn ?_ | refine Br ?_ | refine Be ?_ | refine Bx (by decide) ?_
        | (refine RS.nl ?_; refine hk _ _ ?_; clear hk k)
        | (refine RS.st fun A B hA hB => ?_; simp [hi2, hx, hv, sc, he, hw, onW_t, onW_f, onV_s]; first | (refine hA _ _ _ ?_ ?_; (focus (first | (simp [hi2, hx, hv, sc, he, hw]; done) | (simp [hi2, hx, hv, sc, he, hw]; omega))); clear hA hB A B) | (refine hB ?_; clear hA hB A B) | (refine onV_if ?_ ?_; (focus (first | omega | (refine ⟨?_, ?_⟩ <;> omega))); simp only [onV_s]; refine hA _ _ _ ?_ ?_; (focus (first | (simp [hi2, hx, hv, sc, he, hw]; done) | (simp [hi2, hx, hv, sc, he, hw]; omega))); clear hA hB A B))
        | (refine RQ.nl ?_; refine hk _ _ ?_; clear hk k)
        | (refine RQ.st fun A B hA hB => ?_; simp [hi2, hx, hv, sc, he, hw, onW_t, onW_f, onV_s]; first | (refine hA _ _ _ ?_ (by first | exact .inl rfl | exact .inr (by decide)) ?_; (focus (first | (simp [hi2, hx, hv, sc, he, hw]; done) | (simp [hi2, hx, hv, sc, he, hw]; omega))); clear hA hB A B) | (refine hB ?_; clear hA hB A B) | (refine onV_if ?_ ?_; (focus (first | omega | (refine ⟨?_, ?_⟩ <;> omega))); simp only [onV_s]; refine hA _ _ _ ?_ (by first | exact .inl rfl | exact .inr (by decide)) ?_; (focus (first | (simp [hi2, hx, hv, sc, he, hw]; done) | (simp [hi2, hx, hv, sc, he, hw]; omega))); clear hA hB A B))
        | refine WP.sr fun k hk => ?_ | refine WP.r fun k hk => ?_
        | refine WP.sd _ rfl fun k hk => ?_ | refine WP.d _ rfl fun k hk => ?_
        | (refine WP.cc fun A B hA hB => ?_; simp [hi2, hx, hv, sc, he, hw, onB_t, onB_f]; first | (refine hA ?_; clear hA hB A B) | (refine hB ?_; clear hA hB A B) | (refine onB_if (fun h => hA ?_) (fun h => hB ?_) <;> clear hA hB A B))
        | refine WP.q ?_ | refine WP.b ?_)
      exact ⟨i + 1, by omega, by simp, by omega, rfl, by rw [htk]; simp only [inB, List.any_append] at ht ⊢; rw [ht]; simp [he]⟩
    · skip
      repeat' (first
        | refine WP.t ?_ | refine WP.k ?_ | refine WP.e ?_ | refine Qn ?_ | refine Qr ?_ | refine Qe ?_ | refine Bn ?_ | refine Br ?_ | refine Be ?_ | refine Bx (by decide) ?_
        | (refine RS.nl ?_; refine hk _ _ ?_; clear hk k)
        | (refine RS.st fun A B hA hB => ?_; simp [hi2, hx, hv, sc, he, hw, onW_t, onW_f, onV_s]; first | (refine hA _ _ _ ?_ ?_; (focus (first | (simp [hi2, hx, hv, sc, he, hw]; done) | (simp [hi2, hx, hv, sc, he, hw]; omega))); clear hA hB A B) | (refine hB ?_; clear hA hB A B) | (refine onV_if ?_ ?_; (focus (first | omega | (refine ⟨?_, ?_⟩ <;> omega))); simp only [onV_s]; refine hA _ _ _ ?_ ?_; (focus (first | (simp [hi2, hx, hv, sc, he, hw]; done) | (simp [hi2, hx, hv, sc, he, hw]; omega))); clear hA hB A B))
        | (refine RQ.nl ?_; refine hk _ _ ?_; clear hk k)
        | (refine RQ.st fun A B hA hB => ?_; simp [hi2, hx, hv, sc, he, hw, onW_t, onW_f, onV_s]; first | (refine hA _ _ _ ?_ (by first | exact .inl rfl | exact .inr (by decide)) ?_; (focus (first | (simp [hi2, hx, hv, sc, he, hw]; done) | (simp [hi2, hx, hv, sc, he, hw]; omega))); clear hA hB A B) | (refine hB ?_; clear hA hB A B) | (refine onV_if ?_ ?_; (focus (first | omega | (refine ⟨?_, ?_⟩ <;> omega))); simp only [onV_s]; refine hA _ _ _ ?_ (by first | exact .inl rfl | exact .inr (by decide)) ?_; (focus (first | (simp [hi2, hx, hv, sc, he, hw]; done) | (simp [hi2, hx, hv, sc, he, hw]; omega))); clear hA hB A B))
        | refine WP.sr fun k hk => ?_ | refine WP.r fun k hk => ?_
        | refine WP.sd _ rfl fun k hk => ?_ | refine WP.d _ rfl fun k hk => ?_
        | (refine WP.cc fun A B hA hB => ?_; simp [hi2, hx, hv, sc, he, hw, onB_t, onB_f]; first | (refine hA ?_; clear hA hB A B) | (refine hB ?_; clear hA hB A B) | (refine onB_if (fun h => hA ?_) (fun h => hB ?_) <;> clear hA hB A B))
        | refine WP.q ?_ | refine WP.b ?_)
      have : inB x l = true := List.any_eq_true.2 ⟨y, hm, he⟩
      simp [this]
  · have he : l.take i = l := List.take_of_length_le (by omega)
    rw [he] at ht
    repeat' (first
      | refine WP.t ?_ | refine WP.k ?_ | refine WP.e ?_ | refine Qn ?_ | refine Qr ?_ | refine Qe ?_ | refine Bn ?_ | refine Br ?_ | refine Be ?_ | refine Bx (by decide) ?_
      | (refine RS.nl ?_; refine hk _ _ ?_; clear hk k)
      | (refine RS.st fun A B hA hB => ?_; simp [hi2, onW_t, onW_f, onV_s]; first | (refine hA _ _ _ ?_ ?_; (focus (first | (simp [hi2]; done) | (simp [hi2]; omega))); clear hA hB A B) | (refine hB ?_; clear hA hB A B) | (refine onV_if ?_ ?_; (focus (first | omega | (refine ⟨?_, ?_⟩ <;> omega))); simp only [onV_s]; refine hA _ _ _ ?_ ?_; (focus (first | (simp [hi2]; done) | (simp [hi2]; omega))); clear hA hB A B))
      | (refine RQ.nl ?_; refine hk _ _ ?_; clear hk k)
      | (refine RQ.st fun A B hA hB => ?_; simp [hi2, onW_t, onW_f, onV_s]; first | (refine hA _ _ _ ?_ (by first | exact .inl rfl | exact .inr (by decide)) ?_; (focus (first | (simp [hi2]; done) | (simp [hi2]; omega))); clear hA hB A B) | (refine hB ?_; clear hA hB A B) | (refine onV_if ?_ ?_; (focus (first | omega | (refine ⟨?_, ?_⟩ <;> omega))); simp only [onV_s]; refine hA _ _ _ ?_ (by first | exact .inl rfl | exact .inr (by decide)) ?_; (focus (first | (simp [hi2]; done) | (simp [hi2]; omega))); clear hA hB A B))
      | refine WP.sr fun k hk => ?_ | refine WP.r fun k hk => ?_
      | refine WP.sd _ rfl fun k hk => ?_ | refine WP.d _ rfl fun k hk => ?_
      | (refine WP.cc fun A B hA hB => ?_; simp [hi2, onB_t, onB_f]; first | (refine hA ?_; clear hA hB A B) | (refine hB ?_; clear hA hB A B) | (refine onB_if (fun h => hA ?_) (fun h => hB ?_) <;> clear hA hB A B))
      | refine WP.q ?_ | refine WP.b ?_)
    simp [ht]
set_option maxHeartbeats 8000000 in
theorem ft_Plain2 (x : Str) (hl : x.length < LIM) : FT (env K gw) NoW 39 [.str x] s (.bool (plain x)) s := by
  refine FT.pure (fn := Tryd.f39) F0_ok mixed Tryd.func39 (by kernel_rfl) (by rfl) rfl rfl (by simp) rfl fun μ w => ?_
  by_cases h0 : x = []
  · subst h0
    repeat' (first
      | refine WP.t ?_ | refine WP.k ?_ | refine WP.e ?_ | refine Qn ?_ | refine Qr ?_ | refine Qe ?_ | refine Bn ?_ | refine Br ?_ | refine Be ?_ | refine Bx (by decide) ?_
      | (refine RS.nl ?_; refine hk _ _ ?_; clear hk k)
      | (refine RS.st fun A B hA hB => ?_; simp [onW_t, onW_t, onW_f, onV_s]; first | (refine hA _ _ _ ?_ ?_; (focus (first | (simp [onW_t]; done) | (simp [onW_t]; omega))); clear hA hB A B) | (refine hB ?_; clear hA hB A B) | (refine onV_if ?_ ?_; (focus (first | omega | (refine ⟨?_, ?_⟩ <;> omega))); simp only [onV_s]; refine hA _ _ _ ?_ ?_; (focus (first | (simp [onW_t]; done) | (simp [onW_t]; omega))); clear hA hB A B))
      | (refine RQ.nl ?_; refine hk _ _ ?_; clear hk k)
      | (refine RQ.st fun A B hA hB => ?_; simp [onW_t, onW_t, onW_f, onV_s]; first | (refine hA _ _ _ ?_ (by first | exact .inl rfl | exact .inr (by decide)) ?_; (focus (first | (simp [onW_t]; done) | (simp [onW_t]; omega))); clear hA hB A B) | (refine hB ?_; clear hA hB A B) | (refine onV_if ?_ ?_; (focus (first | omega | (refine ⟨?_, ?_⟩ <;> omega))); simp only [onV_s]; refine hA _ _ _ ?_ (by first | exact .inl rfl | exact .inr (by decide)) ?_; (focus (first | (simp [onW_t]; done) | (simp [onW_t]; omega))); clear hA hB A B))
      | refine WP.sr fun k hk => ?_ | refine WP.r fun k hk => ?_
      | refine WP.sd _ rfl fun k hk => ?_ | refine WP.d _ rfl fun k hk => ?_
      | (refine WP.cc fun A B hA hB => ?_; simp [onW_t, onB_t, onB_f]; first | (refine hA ?_; clear hA hB A B) | (refine hB ?_; clear hA hB A B) | (refine onB_if (fun h => hA ?_) (fun h => hB ?_) <;> clear hA hB A B))
      | refine WP.q ?_ | refine WP.b ?_)
    simp [plain]
  by_cases h1 : x = [110, 111, 116]
  · subst h1
    repeat' (first
      | refine WP.t ?_ | refine WP.k ?_ | refine WP.e ?_ | refine Qn ?_ | refine Qr ?_ | refine Qe ?_ | refine Bn ?_ | refine Br ?_ | refine Be ?_ | refine Bx (by decide) ?_
      | (refine RS.nl ?_; refine hk _ _ ?_; clear hk k)
      | (refine RS.st fun A B hA hB => ?_; simp [onW_t, onW_t, onW_f, onV_s]; first | (refine hA _ _ _ ?_ ?_; (focus (first | (simp [onW_t]; done) | (simp [onW_t]; omega))); clear hA hB A B) | (refine hB ?_; clear hA hB A B) | (refine onV_if ?_ ?_; (focus (first | omega | (refine ⟨?_, ?_⟩ <;> omega))); simp only [onV_s]; refine hA _ _ _ ?_ ?_; (focus (first | (simp [onW_t]; done) | (simp [onW_t]; omega))); clear hA hB A B))
      | (refine RQ.nl ?_; refine hk _ _ ?_; clear hk k)
      | (refine RQ.st fun A B hA hB => ?_; simp [onW_t, onW_t, onW_f, onV_s]; first | (refine hA _ _ _ ?_ (by first | exact .inl rfl | exact .inr (by decide)) ?_; (focus (first | (simp [onW_t]; done) | (simp [onW_t]; omega))); clear hA hB A B) | (refine hB ?_; clear hA hB A B) | (refine onV_if ?_ ?_; (focus (first | omega | (refine ⟨?_, ?_⟩ <;> omega))); simp only [onV_s]; refine hA _ _ _ ?_ (by first | exact .inl rfl | exact .inr (by decide)) ?_; (focus (first | (simp [onW_t]; done) | (simp [onW_t]; omega))); clear hA hB A B))
      | refine WP.sr fun k hk => ?_ | refine WP.r fun k hk => ?_
      | refine WP.sd _ rfl fun k hk => ?_ | refine WP.d _ rfl fun k hk => ?_
      | (refine WP.cc fun A B hA hB => ?_; simp [onW_t, onB_t, onB_f]; first | (refine hA ?_; clear hA hB A B) | (refine hB ?_; clear hA hB A B) | (refine onB_if (fun h => hA ?_) (fun h => hB ?_) <;> clear hA hB A B))
      | refine WP.q ?_ | refine WP.b ?_)
    simp [plain]
  have q0 : ((x.length : Int) == 0) = false := by
    have : 0 < x.length := List.length_pos_iff.2 h0
    simp; omega
  have q1 : (x == [110, 111, 116]) = false := by simpa using h1
  have q2 : x.isEmpty = false := by cases x <;> simp_all
  repeat' (first
    | refine WP.t ?_ | refine WP.k ?_ | refine WP.e ?_ | refine Qn ?_ | refine Qr ?_ | refine Qe ?_ | refine Bn ?_ | refine Br ?_ | refine Be ?_ | refine Bx (by decide) ?_
    | (refine RS.nl ?_; refine hk _ _ ?_; clear hk k)
    | (refine RS.st fun A B hA hB => ?_; simp [q0, q1, h0, onW_t, onW_f, onV_s]; first | (refine hA _ _ _ ?_ ?_; (focus (first | (simp [q0, q1, h0]; done) | (simp [q0, q1, h0]; omega))); clear hA hB A B) | (refine hB ?_; clear hA hB A B) | (refine onV_if ?_ ?_; (focus (first | omega | (refine ⟨?_, ?_⟩ <;> omega))); simp only [onV_s]; refine hA _ _ _ ?_ ?_; (focus (first | (simp [q0, q1, h0]; done) | (simp [q0, q1, h0]; omega))); clear hA hB A B))
    | (refine RQ.nl ?_; refine hk _ _ ?_; clear hk k)
    | (refine RQ.st fun A B hA hB => ?_; simp [q0, q1, h0, onW_t, onW_f, onV_s]; first | (refine hA _ _ _ ?_ (by first | exact .inl rfl | exact .inr (by decide)) ?_; (focus (first | (simp [q0, q1, h0]; done) | (simp [q0, q1, h0]; omega))); clear hA hB A B) | (refine hB ?_; clear hA hB A B) | (refine onV_if ?_ ?_; (focus (first | omega | (refine ⟨?_, ?_⟩ <;> omega))); simp only [onV_s]; refine hA _ _ _ ?_ (by first | exact .inl rfl | exact .inr (by decide)) ?_; (focus (first | (simp [q0, q1, h0]; done) | (simp [q0, q1, h0]; omega))); clear hA hB A B))
    | refine WP.sr fun k hk => ?_ | refine WP.r fun k hk => ?_
    | refine WP.sd _ rfl fun k hk => ?_ | refine WP.d _ rfl fun k hk => ?_
    | (refine WP.cc fun A B hA hB => ?_; simp [q0, q1, h0, onB_t, onB_f]; first | (refine hA ?_; clear hA hB A B) | (refine hB ?_; clear hA hB A B) | (refine onB_if (fun h => hA ?_) (fun h => hB ?_) <;> clear hA hB A B))
    | refine WP.q ?_ | refine WP.b ?_)
  refine WP_loopS (fun i : Nat => [(0, .str x), (3, .int .i64 i)]) (fun i s' => i ≤ x.length ∧ s' = s ∧ (x.take i).all wordB = true ∧ (0 < i → smallB (x.headD 0) = true)) (fun i => x.length - i) 0 (by simp) ⟨by omega, rfl, rfl, fun h => absurd h (by omega)⟩ ?_
  rintro i _ ⟨hi, rfl, ht, hh⟩
  by_cases hi2 : i < x.length
  · have htk : x.take (i + 1) = x.take i ++ [x[i]] := List.take_succ_eq_append_getElem hi2
    have hw := wrap_succ hi2 hl
    have hm : x[i] ∈ x := List.getElem_mem hi2
    have hhead : i = 0 → x.headD 0 = x[i] := fun e => by
      subst e
      match x, h0 with
      | c :: x, _ => rfl
    generalize hv : x[i] = c at *
    have hsm : smallB c = (decide (97 ≤ c.toNat) && decide (c.toNat ≤ 122)) := rfl
    have hwd : wordB c = (smallB c || (decide (65 ≤ c.toNat) && decide (c.toNat ≤ 90)) || (decide (48 ≤ c.toNat) && decide (c.toNat ≤ 57)) || decide (c.toNat = 95)) := rfl
    have bad : wordB c = false → plain x = false := fun h => by
      have : x.all wordB = false := List.all_eq_false.2 ⟨c, hm, by simp [h]⟩
      simp [plain, this]
    have bad0 : i = 0 → smallB c = false → plain x = false := fun e h => by
      have := hhead e
      simp only [plain, this, h]
      simp
    generalize hn : c.toNat = n at *
    by_cases f1 : 97 ≤ n <;> by_cases f2 : n ≤ 122 <;> by_cases f3 : 65 ≤ n <;> by_cases f4 : n ≤ 90 <;> by_cases f5 : 48 ≤ n <;> by_cases f6 : n ≤ 57 <;> by_cases f7 : n = 95 <;> first | (exfalso; omega) | skip
    all_goals
      have i1 : (97 ≤ (n : Int)) ↔ (97 ≤ n) := by omega
      have i2 : ((n : Int) ≤ 122) ↔ (n ≤ 122) := by omega
      have i3 : (65 ≤ (n : Int)) ↔ (65 ≤ n) := by omega
      have i4 : ((n : Int) ≤ 90) ↔ (n ≤ 90) := by omega
      have i5 : (48 ≤ (n : Int)) ↔ (48 ≤ n) := by omega
      have i6 : ((n : Int) ≤ 57) ↔ (n ≤ 57) := by omega
      have i7 : ((n : Int) == 95) = decide (n = 95) := by rw [Bool.eq_iff_iff]; simp; omega
      by_cases hi0 : i = 0
      · subst hi0
        repeat' (first
          | refine WP.t ?_ | refine WP.k ?_ | refine WP.e ?_ | refine Qn ?_ | refine Qr ?_ | refine Qe ?_ | refine Bn ?_ | refine Br ?_ | refine Be ?_ | refine Bx (by decide) ?_
          | (refine RS.nl ?_; refine hk _ _ ?_; clear hk k)
          | (refine RS.st fun A B hA hB => ?_; simp [hi2, hv, hn, hw, i1, i2, i3, i4, i5, i6, i7, f1, f2, f3, f4, f5, f6, f7, onW_t, onW_f, onV_s]; first | (refine hA _ _ _ ?_ ?_; (focus (first | (simp [hi2, hv, hn, hw, i1, i2, i3, i4, i5, i6, i7, f1, f2, f3, f4, f5, f6, f7]; done) | (simp [hi2, hv, hn, hw, i1, i2, i3, i4, i5, i6, i7, f1, f2, f3, f4, f5, f6, f7]; omega))); clear hA hB A B) | (refine hB ?_; clear hA hB A B) | (refine onV_if ?_ ?_; (focus (first | omega | (refine ⟨?_, ?_⟩ <;> omega))); simp only [onV_s]; refine hA _ _ _ ?_ ?_; (focus (first | (simp [hi2, hv, hn, hw, i1, i2, i3, i4, i5, i6, i7, f1, f2, f3, f4, f5, f6, f7]; done) | (simp [hi2, hv, hn, hw, i1, i2, i3, i4, i5, i6, i7, f1, f2, f3, f4, f5, f6, f7]; omega))); clear hA hB A B))
          | (refine RQ.nl ?_; refine hk _ _ ?_; clear hk k)
          | (refine RQ.st fun A B hA hB => ?_; simp [hi2, hv, hn, hw, i1, i2, i3, i4, i5, i6, i7, f1, f2, f3, f4, f5, f6, f7, onW_t, onW_f, onV_s]; first | (refine hA _ _ _ ?_ (by first | exact .inl rfl | exact .inr (by decide)) ?_; (focus (first | (simp [hi2, hv, hn, hw, i1, i2, i3, i4, i5, i6, i7, f1, f2, f3, f4, f5, f6, f7]; done) | (simp [hi2, hv, hn, hw, i1, i2, i3, i4, i5, i6, i7, f1, f2, f3, f4, f5, f6, f7]; omega))); clear hA hB A B) | (refine hB ?_; clear hA hB A B) | (refine onV_if ?_ ?_; (focus (first | omega | (refine ⟨?_, ?_⟩ <;> omega))); simp only [onV_s]; refine hA _ _ _ ?_ (by first | exact .inl rfl | exact .inr (by decide)) ?_; (focus (first | (simp [hi2, hv, hn, hw, i1, i2, i3, i4, i5, i6, i7, f1, f2, f3, f4, f5, f6, f7]; done) | (simp [hi2, hv, hn, hw, i1, i2, i3, i4, i5, i6, i7, f1, f2, f3, f4, f5, f6, f7]; omega))); clear hA hB A B))
          | refine WP.sr fun k hk => ?_ | refine WP.r fun k hk => ?_
          | refine WP.sd _ rfl fun k hk => ?_ | refine WP.d _ rfl fun k hk => ?_
          | (refine WP.cc fun A B hA hB => ?_; simp [hi2, hv, hn, hw, i1, i2, i3, i4, i5, i6, i7, f1, f2, f3, f4, f5, f6, f7, onB_t, onB_f]; first | (refine hA ?_; clear hA hB A B) | (refine hB ?_; clear hA hB A B) | (refine onB_if (fun h => hA ?_) (fun h => hB ?_) <;> clear hA hB A B))
          | refine WP.q ?_ | refine WP.b ?_)
        first
          | (rw [bad0 rfl (by rw [hsm]; simp [f1, f2])]; simp; done)
          | exact ⟨0 + 1, by omega, by simp [wrap64 (x := 1) (by omega) (by omega)], by omega, rfl, by rw [htk, List.all_append, ht]; simp [hwd, hsm, f1, f2], fun _ => by rw [hhead rfl, hsm]; simp [f1, f2]⟩
      · have hi1 : ((i : Int) == 0) = false := by simp; omega
        repeat' (first
          | refine WP.t ?_ | refine WP.k ?_ | refine WP.e ?_ | refine Qn ?_ | refine Qr ?_ | refine Qe ?_ | refine Bn ?_ | refine Br ?_ | refine Be ?_ | refine Bx (by decide) ?_
          | (refine RS.nl ?_; refine hk _ _ ?_; clear hk k)
          | (refine RS.st fun A B hA hB => ?_; simp [hi2, hv, hn, hw, hi0, hi1, i1, i2, i3, i4, i5, i6, i7, f1, f2, f3, f4, f5, f6, f7, onW_t, onW_f, onV_s]; first | (refine hA _ _ _ ?_ ?_; (focus (first | (simp [hi2, hv, hn, hw, hi0, hi1, i1, i2, i3, i4, i5, i6, i7, f1, f2, f3, f4, f5, f6, f7]; done) | (simp [hi2, hv, hn, hw, hi0, hi1, i1, i2, i3, i4, i5, i6, i7, f1, f2, f3, f4, f5, f6, f7]; omega))); clear hA hB A B) | (refine hB ?_; clear hA hB A B) | (refine onV_if ?_ ?_; (focus (first | omega | (refine ⟨?_, ?_⟩ <;> omega))); simp only [onV_s]; refine hA _ _ _ ?_ ?_; (focus (first | (simp [hi2, hv, hn, hw, hi0, hi1, i1, i2, i3, i4, i5, i6, i7, f1, f2, f3, f4, f5, f6, f7]; done) | (simp [hi2, hv, hn, hw, hi0, hi1, i1, i2, i3, i4, i5, i6, i7, f1, f2, f3, f4, f5, f6, f7]; omega))); clear hA hB A B))
          | (refine RQ.nl ?_; refine hk _ _ ?_; clear hk k)
          | (refine RQ.st fun A B hA hB => ?_; simp [hi2, hv, hn, hw, hi0, hi1, i1, i2, i3, i4, i5, i6, i7, f1, f2, f3, f4, f5, f6, f7, onW_t, onW_f, onV_s]; first | (refine hA _ _ _ ?_ (by first | exact .inl rfl | exact .inr (by decide)) ?_; (focus (first | (simp [hi2, hv, hn, hw, hi0, hi1, i1, i2, i3, i4, i5, i6, i7, f1, f2, f3, f4, f5, f6, f7]; done) | (simp [hi2, hv, hn, hw, hi0, hi1, i1, i2, i3, i4, i5, i6, i7, f1, f2, f3, f4, f5, f6, f7]; omega))); clear hA hB A B) | (refine hB ?_; clear hA hB A B) | (refine onV_if ?_ ?_; (focus (first | omega | (refine ⟨?_, ?_⟩ <;> omega))); simp only [onV_s]; refine hA _ _ _ ?_ (by first | exact .inl rfl | exact .inr (by decide)) ?_; (focus (first | (simp [hi2, hv, hn, hw, hi0, hi1, i1, i2, i3, i4, i5, i6, i7, f1, f2, f3, f4, f5, f6, f7]; done) | (simp [hi2, hv, hn, hw, hi0, hi1, i1, i2, i3, i4, i5, i6, i7, f1, f2, f3, f4, f5, f6, f7]; omega))); clear hA hB A B))
          | refine WP.sr fun k hk => ?_ | refine WP.r fun k hk => ?_
          | refine WP.sd _ rfl fun k hk => ?_ | refine WP.d _ rfl fun k hk => ?_
          | (refine WP.cc fun A B hA hB => ?_; simp [hi2, hv, hn, hw, hi0, hi1, i1, i2, i3, i4, i5, i6, i7, f1, f2, f3, f4, f5, f6, f7, onB_t, onB_f]; first | (refine hA ?_; clear hA hB A B) | (refine hB ?_; clear hA hB A B) | (refine onB_if (fun h => hA ?_) (fun h => hB ?_) <;> clear hA hB A B))
          | refine WP.q ?_ | refine WP.b ?_)
        first
          | (rw [bad (by rw [hwd, hsm]; simp [f1, f2, f3, f4, f5, f6, f7])]; simp; done)
          | exact ⟨i + 1, by omega, by simp, by omega, rfl, by rw [htk, List.all_append, ht]; simp [hwd, hsm, f1, f2, f3, f4, f5, f6, f7], fun _ => hh (by omega)⟩
  · have he : x.take i = x := List.take_of_length_le (by omega)
    rw [he] at ht
    have h3 := hh (by have : 0 < x.length := List.length_pos_iff.2 h0; omega)
    repeat' (first
      | refine WP.t ?_ | refine WP.k ?_ | refine WP.e ?_ | refine Qn ?_ | refine Qr ?_ | refine Qe ?_ | refine Bn ?_ | refine Br ?_ | refine Be ?_ | refine Bx (by decide) ?_
      | (refine RS.nl ?_; refine hk _ _ ?_; clear hk k)
      | (refine RS.st fun A B hA hB => ?_; simp [hi2, onW_t, onW_f, onV_s]; first | (refine hA _ _ _ ?_ ?_; (focus (first | (simp [hi2]; done) | (simp [hi2]; omega))); clear hA hB A B) | (refine hB ?_; clear hA hB A B) | (refine onV_if ?_ ?_; (focus (first | omega | (refine ⟨?_, ?_⟩ <;> omega))); simp only [onV_s]; refine hA _ _ _ ?_ ?_; (focus (first | (simp [hi2]; done) | (simp [hi2]; omega))); clear hA hB A B))
      | (refine RQ.nl ?_; refine hk _ _ ?_; clear hk k)
      | (refine RQ.st fun A B hA hB => ?_; simp [hi2, onW_t, onW_f, onV_s]; first | (refine hA _ _ _ ?_ (by first | exact .inl rfl | exact .inr (by decide)) ?_; (focus (first | (simp [hi2]; done) | (simp [hi2]; omega))); clear hA hB A B) | (refine hB ?_; clear hA hB A B) | (refine onV_if ?_ ?_; (focus (first | omega | (refine ⟨?_, ?_⟩ <;> omega))); simp only [onV_s]; refine hA _ _ _ ?_ (by first | exact .inl rfl | exact .inr (by decide)) ?_; (focus (first | (simp [hi2]; done) | (simp [hi2]; omega))); clear hA hB A B))
      | refine WP.sr fun k hk => ?_ | refine WP.r fun k hk => ?_
      | refine WP.sd _ rfl fun k hk => ?_ | refine WP.d _ rfl fun k hk => ?_
      | (refine WP.cc fun A B hA hB => ?_; simp [hi2, onB_t, onB_f]; first | (refine hA ?_; clear hA hB A B) | (refine hB ?_; clear hA hB A B) | (refine onB_if (fun h => hA ?_) (fun h => hB ?_) <;> clear hA hB A B))
      | refine WP.q ?_ | refine WP.b ?_)
    simp only [plain, ht, h3, q1, q2]
    simp
def RB : Fns := ((RA.a1 51 (vInt .i64) fun n => if i64ok n then some (.str (Lib.itoa n)) else none).a2 40 vStr (vSl cStr) fun x l => if l.length < LIM then some (.bool (inB x l)) else none).a1 39 vStr fun x => if x.length < LIM then some (.bool (plain x)) else none
theorem RB_ok : FOk (env K gw) RB := by
  refine ((RA_ok.a1 ?_).a2 ?_).a1 ?_
  · intro n s r h; split at h <;> cases h; exact ft_figures n ‹_›
  · intro x l s r h; split at h <;> cases h; exact ft_in x l ‹_›
  · intro x s r h; split at h <;> cases h; exact ft_Plain2 x ‹_›
theorem ft_Name2 (x : Str) (hl : x.length < LIM) : FT (env K gw) NoW 21 [.str x] s (.bool (nameB x)) s := by
  refine FT.pure (fn := Tryd.f21) RB_ok mixed Tryd.func21 (by kernel_rfl) (by rfl) rfl rfl (by simp) rfl fun μ w => ?_
  have hk : inB x [kSource, kClean, kSink, kBranch, kJump, kReturn] = keyB x := by
    have e : ∀ y : Str, (y == x) = (x == y) := fun y => by rw [Bool.eq_iff_iff, beq_iff_eq, beq_iff_eq]; exact eq_comm
    simp only [inB, keyB, List.any_cons, List.any_nil, Bool.or_false, e, Bool.or_assoc]
  have hl' := hl
  cases hp : plain x
  · skip
    repeat' (first
      | refine WP.t ?_ | refine WP.k ?_ | refine WP.e ?_ | refine Qn ?_ | refine Qr ?_ | refine Qe ?_ | refine Bn ?_ | refine Br ?_ | refine Be ?_ | refine Bx (by decide) ?_
      | (refine RS.nl ?_; refine hk _ _ ?_; clear hk k)
      | (refine RS.st fun A B hA hB => ?_; simp [RB, hl', hp, hk, onW_t, onW_f, onV_s]; first | (refine hA _ _ _ ?_ ?_; (focus (first | (simp [RB, hl', hp, hk]; done) | (simp [RB, hl', hp, hk]; omega))); clear hA hB A B) | (refine hB ?_; clear hA hB A B) | (refine onV_if ?_ ?_; (focus (first | omega | (refine ⟨?_, ?_⟩ <;> omega))); simp only [onV_s]; refine hA _ _ _ ?_ ?_; (focus (first | (simp [RB, hl', hp, hk]; done) | (simp [RB, hl', hp, hk]; omega))); clear hA hB A B))
      | (refine RQ.nl ?_; refine hk _ _ ?_; clear hk k)
      | (refine RQ.st fun A B hA hB => ?_; simp [RB, hl', hp, hk, onW_t, onW_f, onV_s]; first | (refine hA _ _ _ ?_ (by first | exact .inl rfl | exact .inr (by decide)) ?_; (focus (first | (simp [RB, hl', hp, hk]; done) | (simp [RB, hl', hp, hk]; omega))); clear hA hB A B) | (refine hB ?_; clear hA hB A B) | (refine onV_if ?_ ?_; (focus (first | omega | (refine ⟨?_, ?_⟩ <;> omega))); simp only [onV_s]; refine hA _ _ _ ?_ (by first | exact .inl rfl | exact .inr (by decide)) ?_; (focus (first | (simp [RB, hl', hp, hk]; done) | (simp [RB, hl', hp, hk]; omega))); clear hA hB A B))
      | refine WP.sr fun k hk => ?_ | refine WP.r fun k hk => ?_
      | refine WP.sd _ rfl fun k hk => ?_ | refine WP.d _ rfl fun k hk => ?_
      | (refine WP.cc fun A B hA hB => ?_; simp [RB, hl', hp, hk, onB_t, onB_f]; first | (refine hA ?_; clear hA hB A B) | (refine hB ?_; clear hA hB A B) | (refine onB_if (fun h => hA ?_) (fun h => hB ?_) <;> clear hA hB A B))
      | refine WP.q ?_ | refine WP.b ?_)
    simp [nameB, hp]
  · by_cases h32 : x.length ≤ 32
    · have h32' : (x.length : Int) ≤ 32 := by omega
      repeat' (first
        | refine WP.t ?_ | refine WP.k ?_ | refine WP.e ?_ | refine Qn ?_ | refine Qr ?_ | refine Qe ?_ | refine Bn ?_ | refine Br ?_ | refine Be ?_ | refine Bx (by decide) ?_
        | (refine RS.nl ?_; refine hk _ _ ?_; clear hk k)
        | (refine RS.st fun A B hA hB => ?_; simp [RB, hl', hp, h32, h32', onW_t, onW_f, onV_s]; first | (refine hA _ _ _ ?_ ?_; (focus (first | (simp [RB, hl', hp, h32, h32']; done) | (simp [RB, hl', hp, h32, h32']; omega))); clear hA hB A B) | (refine hB ?_; clear hA hB A B) | (refine onV_if ?_ ?_; (focus (first | omega | (refine ⟨?_, ?_⟩ <;> omega))); simp only [onV_s]; refine hA _ _ _ ?_ ?_; (focus (first | (simp [RB, hl', hp, h32, h32']; done) | (simp [RB, hl', hp, h32, h32']; omega))); clear hA hB A B))
        | (refine RQ.nl ?_; refine hk _ _ ?_; clear hk k)
        | (refine RQ.st fun A B hA hB => ?_; simp [RB, hl', hp, h32, h32', onW_t, onW_f, onV_s]; first | (refine hA _ _ _ ?_ (by first | exact .inl rfl | exact .inr (by decide)) ?_; (focus (first | (simp [RB, hl', hp, h32, h32']; done) | (simp [RB, hl', hp, h32, h32']; omega))); clear hA hB A B) | (refine hB ?_; clear hA hB A B) | (refine onV_if ?_ ?_; (focus (first | omega | (refine ⟨?_, ?_⟩ <;> omega))); simp only [onV_s]; refine hA _ _ _ ?_ (by first | exact .inl rfl | exact .inr (by decide)) ?_; (focus (first | (simp [RB, hl', hp, h32, h32']; done) | (simp [RB, hl', hp, h32, h32']; omega))); clear hA hB A B))
        | refine WP.sr fun k hk => ?_ | refine WP.r fun k hk => ?_
        | refine WP.sd _ rfl fun k hk => ?_ | refine WP.d _ rfl fun k hk => ?_
        | (refine WP.cc fun A B hA hB => ?_; simp [RB, hl', hp, h32, h32', onB_t, onB_f]; first | (refine hA ?_; clear hA hB A B) | (refine hB ?_; clear hA hB A B) | (refine onB_if (fun h => hA ?_) (fun h => hB ?_) <;> clear hA hB A B))
        | refine WP.q ?_ | refine WP.b ?_)
      simp [nameB, hp, h32]
      exact hk
    · have h32' : ¬ (x.length : Int) ≤ 32 := by omega
      repeat' (first
        | refine WP.t ?_ | refine WP.k ?_ | refine WP.e ?_ | refine Qn ?_ | refine Qr ?_ | refine Qe ?_ | refine Bn ?_ | refine Br ?_ | refine Be ?_ | refine Bx (by decide) ?_
        | (refine RS.nl ?_; refine hk _ _ ?_; clear hk k)
        | (refine RS.st fun A B hA hB => ?_; simp [RB, hl', hp, hk, h32, h32', onW_t, onW_f, onV_s]; first | (refine hA _ _ _ ?_ ?_; (focus (first | (simp [RB, hl', hp, hk, h32, h32']; done) | (simp [RB, hl', hp, hk, h32, h32']; omega))); clear hA hB A B) | (refine hB ?_; clear hA hB A B) | (refine onV_if ?_ ?_; (focus (first | omega | (refine ⟨?_, ?_⟩ <;> omega))); simp only [onV_s]; refine hA _ _ _ ?_ ?_; (focus (first | (simp [RB, hl', hp, hk, h32, h32']; done) | (simp [RB, hl', hp, hk, h32, h32']; omega))); clear hA hB A B))
        | (refine RQ.nl ?_; refine hk _ _ ?_; clear hk k)
        | (refine RQ.st fun A B hA hB => ?_; simp [RB, hl', hp, hk, h32, h32', onW_t, onW_f, onV_s]; first | (refine hA _ _ _ ?_ (by first | exact .inl rfl | exact .inr (by decide)) ?_; (focus (first | (simp [RB, hl', hp, hk, h32, h32']; done) | (simp [RB, hl', hp, hk, h32, h32']; omega))); clear hA hB A B) | (refine hB ?_; clear hA hB A B) | (refine onV_if ?_ ?_; (focus (first | omega | (refine ⟨?_, ?_⟩ <;> omega))); simp only [onV_s]; refine hA _ _ _ ?_ (by first | exact .inl rfl | exact .inr (by decide)) ?_; (focus (first | (simp [RB, hl', hp, hk, h32, h32']; done) | (simp [RB, hl', hp, hk, h32, h32']; omega))); clear hA hB A B))
        | refine WP.sr fun k hk => ?_ | refine WP.r fun k hk => ?_
        | refine WP.sd _ rfl fun k hk => ?_ | refine WP.d _ rfl fun k hk => ?_
        | (refine WP.cc fun A B hA hB => ?_; simp [RB, hl', hp, hk, h32, h32', onB_t, onB_f]; first | (refine hA ?_; clear hA hB A B) | (refine hB ?_; clear hA hB A B) | (refine onB_if (fun h => hA ?_) (fun h => hB ?_) <;> clear hA hB A B))
        | refine WP.q ?_ | refine WP.b ?_)
      simp [nameB, hp, h32]
theorem ft_Op2 (x : Str) : FT (env K gw) NoW 34 [.str x] s (.bool (opB x)) s := by
  refine FT.pure (fn := Tryd.f34) RB_ok mixed Tryd.func34 (by kernel_rfl) (by rfl) rfl rfl (by simp) rfl fun μ w => ?_
  have hk : inB x [[43], [45], [42], [60], [61]] = opB x := by
    have e : ∀ y : Str, (y == x) = (x == y) := fun y => by rw [Bool.eq_iff_iff, beq_iff_eq, beq_iff_eq]; exact eq_comm
    simp only [inB, opB, List.any_cons, List.any_nil, Bool.or_false, e, Bool.or_assoc]
  repeat' (first
    | refine WP.t ?_ | refine WP.k ?_ | refine WP.e ?_ | refine Qn ?_ | refine Qr ?_ | refine Qe ?_ | refine Bn ?_ | refine Br ?_ | refine Be ?_ | refine Bx (by decide) ?_
    | (refine RS.nl ?_; refine hk _ _ ?_; clear hk k)
    | (refine RS.st fun A B hA hB => ?_; simp [RB, onW_t, onW_f, onV_s]; first | (refine hA _ _ _ ?_ ?_; (focus (first | (simp [RB]; done) | (simp [RB]; omega))); clear hA hB A B) | (refine hB ?_; clear hA hB A B) | (refine onV_if ?_ ?_; (focus (first | omega | (refine ⟨?_, ?_⟩ <;> omega))); simp only [onV_s]; refine hA _ _ _ ?_ ?_; (focus (first | (simp [RB]; done) | (simp [RB]; omega))); clear hA hB A B))
    | (refine RQ.nl ?_; refine hk _ _ ?_; clear hk k)
    | (refine RQ.st fun A B hA hB => ?_; simp [RB, onW_t, onW_f, onV_s]; first | (refine hA _ _ _ ?_ (by first | exact .inl rfl | exact .inr (by decide)) ?_; (focus (first | (simp [RB]; done) | (simp [RB]; omega))); clear hA hB A B) | (refine hB ?_; clear hA hB A B) | (refine onV_if ?_ ?_; (focus (first | omega | (refine ⟨?_, ?_⟩ <;> omega))); simp only [onV_s]; refine hA _ _ _ ?_ (by first | exact .inl rfl | exact .inr (by decide)) ?_; (focus (first | (simp [RB]; done) | (simp [RB]; omega))); clear hA hB A B))
    | refine WP.sr fun k hk => ?_ | refine WP.r fun k hk => ?_
    | refine WP.sd _ rfl fun k hk => ?_ | refine WP.d _ rfl fun k hk => ?_
    | (refine WP.cc fun A B hA hB => ?_; simp [RB, onB_t, onB_f]; first | (refine hA ?_; clear hA hB A B) | (refine hB ?_; clear hA hB A B) | (refine onB_if (fun h => hA ?_) (fun h => hB ?_) <;> clear hA hB A B))
    | refine WP.q ?_ | refine WP.b ?_)
  simp
  exact hk
theorem ft_node2 (n : Int) : FT (env K gw) NoW 35 [.int .i64 n] s (.bool (nodeB n)) s := by
  refine FT.pure (fn := Tryd.f35) F0_ok mixed Tryd.func35 (by kernel_rfl) (by rfl) rfl rfl (by simp) rfl fun μ w => ?_
  by_cases h1 : 0 ≤ n
  · skip
    repeat' (first
      | refine WP.t ?_ | refine WP.k ?_ | refine WP.e ?_ | refine Qn ?_ | refine Qr ?_ | refine Qe ?_ | refine Bn ?_ | refine Br ?_ | refine Be ?_ | refine Bx (by decide) ?_
      | (refine RS.nl ?_; refine hk _ _ ?_; clear hk k)
      | (refine RS.st fun A B hA hB => ?_; simp [h1, onW_t, onW_f, onV_s]; first | (refine hA _ _ _ ?_ ?_; (focus (first | (simp [h1]; done) | (simp [h1]; omega))); clear hA hB A B) | (refine hB ?_; clear hA hB A B) | (refine onV_if ?_ ?_; (focus (first | omega | (refine ⟨?_, ?_⟩ <;> omega))); simp only [onV_s]; refine hA _ _ _ ?_ ?_; (focus (first | (simp [h1]; done) | (simp [h1]; omega))); clear hA hB A B))
      | (refine RQ.nl ?_; refine hk _ _ ?_; clear hk k)
      | (refine RQ.st fun A B hA hB => ?_; simp [h1, onW_t, onW_f, onV_s]; first | (refine hA _ _ _ ?_ (by first | exact .inl rfl | exact .inr (by decide)) ?_; (focus (first | (simp [h1]; done) | (simp [h1]; omega))); clear hA hB A B) | (refine hB ?_; clear hA hB A B) | (refine onV_if ?_ ?_; (focus (first | omega | (refine ⟨?_, ?_⟩ <;> omega))); simp only [onV_s]; refine hA _ _ _ ?_ (by first | exact .inl rfl | exact .inr (by decide)) ?_; (focus (first | (simp [h1]; done) | (simp [h1]; omega))); clear hA hB A B))
      | refine WP.sr fun k hk => ?_ | refine WP.r fun k hk => ?_
      | refine WP.sd _ rfl fun k hk => ?_ | refine WP.d _ rfl fun k hk => ?_
      | (refine WP.cc fun A B hA hB => ?_; simp [h1, onB_t, onB_f]; first | (refine hA ?_; clear hA hB A B) | (refine hB ?_; clear hA hB A B) | (refine onB_if (fun h => hA ?_) (fun h => hB ?_) <;> clear hA hB A B))
      | refine WP.q ?_ | refine WP.b ?_)
    simp [nodeB, h1]
  · skip
    repeat' (first
      | refine WP.t ?_ | refine WP.k ?_ | refine WP.e ?_ | refine Qn ?_ | refine Qr ?_ | refine Qe ?_ | refine Bn ?_ | refine Br ?_ | refine Be ?_ | refine Bx (by decide) ?_
      | (refine RS.nl ?_; refine hk _ _ ?_; clear hk k)
      | (refine RS.st fun A B hA hB => ?_; simp [h1, onW_t, onW_f, onV_s]; first | (refine hA _ _ _ ?_ ?_; (focus (first | (simp [h1]; done) | (simp [h1]; omega))); clear hA hB A B) | (refine hB ?_; clear hA hB A B) | (refine onV_if ?_ ?_; (focus (first | omega | (refine ⟨?_, ?_⟩ <;> omega))); simp only [onV_s]; refine hA _ _ _ ?_ ?_; (focus (first | (simp [h1]; done) | (simp [h1]; omega))); clear hA hB A B))
      | (refine RQ.nl ?_; refine hk _ _ ?_; clear hk k)
      | (refine RQ.st fun A B hA hB => ?_; simp [h1, onW_t, onW_f, onV_s]; first | (refine hA _ _ _ ?_ (by first | exact .inl rfl | exact .inr (by decide)) ?_; (focus (first | (simp [h1]; done) | (simp [h1]; omega))); clear hA hB A B) | (refine hB ?_; clear hA hB A B) | (refine onV_if ?_ ?_; (focus (first | omega | (refine ⟨?_, ?_⟩ <;> omega))); simp only [onV_s]; refine hA _ _ _ ?_ (by first | exact .inl rfl | exact .inr (by decide)) ?_; (focus (first | (simp [h1]; done) | (simp [h1]; omega))); clear hA hB A B))
      | refine WP.sr fun k hk => ?_ | refine WP.r fun k hk => ?_
      | refine WP.sd _ rfl fun k hk => ?_ | refine WP.d _ rfl fun k hk => ?_
      | (refine WP.cc fun A B hA hB => ?_; simp [h1, onB_t, onB_f]; first | (refine hA ?_; clear hA hB A B) | (refine hB ?_; clear hA hB A B) | (refine onB_if (fun h => hA ?_) (fun h => hB ?_) <;> clear hA hB A B))
      | refine WP.q ?_ | refine WP.b ?_)
    simp [nodeB, h1]
theorem ft_bare (m : Sm) : FT (env K gw) NoW 33 [.agg m.cs] s (.agg (bareS m).cs) s := by
  obtain ⟨k, x, y, z, o, n, a, b⟩ := m
  refine FT.pure (fn := Tryd.f33) F0_ok mixed Tryd.func33 (by kernel_rfl) (by rfl) rfl rfl (by simp) rfl fun μ w => ?_
  by_cases h1 : k = 1
  · subst h1
    repeat' (first
      | refine WP.t ?_ | refine WP.k ?_ | refine WP.e ?_ | refine Qn ?_ | refine Qr ?_ | refine Qe ?_ | refine Bn ?_ | refine Br ?_ | refine Be ?_ | refine Bx (by decide) ?_
      | (refine RS.nl ?_; refine hk _ _ ?_; clear hk k)
      | (refine RS.st fun A B hA hB => ?_; simp [Sm.cs, onW_t, onW_f, onV_s]; first | (refine hA _ _ _ ?_ ?_; (focus (first | (simp [Sm.cs]; done) | (simp [Sm.cs]; omega))); clear hA hB A B) | (refine hB ?_; clear hA hB A B) | (refine onV_if ?_ ?_; (focus (first | omega | (refine ⟨?_, ?_⟩ <;> omega))); simp only [onV_s]; refine hA _ _ _ ?_ ?_; (focus (first | (simp [Sm.cs]; done) | (simp [Sm.cs]; omega))); clear hA hB A B))
      | (refine RQ.nl ?_; refine hk _ _ ?_; clear hk k)
      | (refine RQ.st fun A B hA hB => ?_; simp [Sm.cs, onW_t, onW_f, onV_s]; first | (refine hA _ _ _ ?_ (by first | exact .inl rfl | exact .inr (by decide)) ?_; (focus (first | (simp [Sm.cs]; done) | (simp [Sm.cs]; omega))); clear hA hB A B) | (refine hB ?_; clear hA hB A B) | (refine onV_if ?_ ?_; (focus (first | omega | (refine ⟨?_, ?_⟩ <;> omega))); simp only [onV_s]; refine hA _ _ _ ?_ (by first | exact .inl rfl | exact .inr (by decide)) ?_; (focus (first | (simp [Sm.cs]; done) | (simp [Sm.cs]; omega))); clear hA hB A B))
      | refine WP.sr fun k hk => ?_ | refine WP.r fun k hk => ?_
      | refine WP.sd _ rfl fun k hk => ?_ | refine WP.d _ rfl fun k hk => ?_
      | (refine WP.cc fun A B hA hB => ?_; simp [Sm.cs, onB_t, onB_f]; first | (refine hA ?_; clear hA hB A B) | (refine hB ?_; clear hA hB A B) | (refine onB_if (fun h => hA ?_) (fun h => hB ?_) <;> clear hA hB A B))
      | refine WP.q ?_ | refine WP.b ?_)
    simp [bareS, Sm.cs]
  have q1 : (k == 1) = false := by simpa using h1
  by_cases h2 : k = 2
  · subst h2
    repeat' (first
      | refine WP.t ?_ | refine WP.k ?_ | refine WP.e ?_ | refine Qn ?_ | refine Qr ?_ | refine Qe ?_ | refine Bn ?_ | refine Br ?_ | refine Be ?_ | refine Bx (by decide) ?_
      | (refine RS.nl ?_; refine hk _ _ ?_; clear hk k)
      | (refine RS.st fun A B hA hB => ?_; simp [Sm.cs, onW_t, onW_f, onV_s]; first | (refine hA _ _ _ ?_ ?_; (focus (first | (simp [Sm.cs]; done) | (simp [Sm.cs]; omega))); clear hA hB A B) | (refine hB ?_; clear hA hB A B) | (refine onV_if ?_ ?_; (focus (first | omega | (refine ⟨?_, ?_⟩ <;> omega))); simp only [onV_s]; refine hA _ _ _ ?_ ?_; (focus (first | (simp [Sm.cs]; done) | (simp [Sm.cs]; omega))); clear hA hB A B))
      | (refine RQ.nl ?_; refine hk _ _ ?_; clear hk k)
      | (refine RQ.st fun A B hA hB => ?_; simp [Sm.cs, onW_t, onW_f, onV_s]; first | (refine hA _ _ _ ?_ (by first | exact .inl rfl | exact .inr (by decide)) ?_; (focus (first | (simp [Sm.cs]; done) | (simp [Sm.cs]; omega))); clear hA hB A B) | (refine hB ?_; clear hA hB A B) | (refine onV_if ?_ ?_; (focus (first | omega | (refine ⟨?_, ?_⟩ <;> omega))); simp only [onV_s]; refine hA _ _ _ ?_ (by first | exact .inl rfl | exact .inr (by decide)) ?_; (focus (first | (simp [Sm.cs]; done) | (simp [Sm.cs]; omega))); clear hA hB A B))
      | refine WP.sr fun k hk => ?_ | refine WP.r fun k hk => ?_
      | refine WP.sd _ rfl fun k hk => ?_ | refine WP.d _ rfl fun k hk => ?_
      | (refine WP.cc fun A B hA hB => ?_; simp [Sm.cs, onB_t, onB_f]; first | (refine hA ?_; clear hA hB A B) | (refine hB ?_; clear hA hB A B) | (refine onB_if (fun h => hA ?_) (fun h => hB ?_) <;> clear hA hB A B))
      | refine WP.q ?_ | refine WP.b ?_)
    simp [bareS, Sm.cs]
  have q2 : (k == 2) = false := by simpa using h2
  by_cases h3 : k = 3
  · subst h3
    repeat' (first
      | refine WP.t ?_ | refine WP.k ?_ | refine WP.e ?_ | refine Qn ?_ | refine Qr ?_ | refine Qe ?_ | refine Bn ?_ | refine Br ?_ | refine Be ?_ | refine Bx (by decide) ?_
      | (refine RS.nl ?_; refine hk _ _ ?_; clear hk k)
      | (refine RS.st fun A B hA hB => ?_; simp [Sm.cs, onW_t, onW_f, onV_s]; first | (refine hA _ _ _ ?_ ?_; (focus (first | (simp [Sm.cs]; done) | (simp [Sm.cs]; omega))); clear hA hB A B) | (refine hB ?_; clear hA hB A B) | (refine onV_if ?_ ?_; (focus (first | omega | (refine ⟨?_, ?_⟩ <;> omega))); simp only [onV_s]; refine hA _ _ _ ?_ ?_; (focus (first | (simp [Sm.cs]; done) | (simp [Sm.cs]; omega))); clear hA hB A B))
      | (refine RQ.nl ?_; refine hk _ _ ?_; clear hk k)
      | (refine RQ.st fun A B hA hB => ?_; simp [Sm.cs, onW_t, onW_f, onV_s]; first | (refine hA _ _ _ ?_ (by first | exact .inl rfl | exact .inr (by decide)) ?_; (focus (first | (simp [Sm.cs]; done) | (simp [Sm.cs]; omega))); clear hA hB A B) | (refine hB ?_; clear hA hB A B) | (refine onV_if ?_ ?_; (focus (first | omega | (refine ⟨?_, ?_⟩ <;> omega))); simp only [onV_s]; refine hA _ _ _ ?_ (by first | exact .inl rfl | exact .inr (by decide)) ?_; (focus (first | (simp [Sm.cs]; done) | (simp [Sm.cs]; omega))); clear hA hB A B))
      | refine WP.sr fun k hk => ?_ | refine WP.r fun k hk => ?_
      | refine WP.sd _ rfl fun k hk => ?_ | refine WP.d _ rfl fun k hk => ?_
      | (refine WP.cc fun A B hA hB => ?_; simp [Sm.cs, onB_t, onB_f]; first | (refine hA ?_; clear hA hB A B) | (refine hB ?_; clear hA hB A B) | (refine onB_if (fun h => hA ?_) (fun h => hB ?_) <;> clear hA hB A B))
      | refine WP.q ?_ | refine WP.b ?_)
    simp [bareS, Sm.cs]
  have q3 : (k == 3) = false := by simpa using h3
  by_cases h4 : k = 4
  · subst h4
    repeat' (first
      | refine WP.t ?_ | refine WP.k ?_ | refine WP.e ?_ | refine Qn ?_ | refine Qr ?_ | refine Qe ?_ | refine Bn ?_ | refine Br ?_ | refine Be ?_ | refine Bx (by decide) ?_
      | (refine RS.nl ?_; refine hk _ _ ?_; clear hk k)
      | (refine RS.st fun A B hA hB => ?_; simp [Sm.cs, onW_t, onW_f, onV_s]; first | (refine hA _ _ _ ?_ ?_; (focus (first | (simp [Sm.cs]; done) | (simp [Sm.cs]; omega))); clear hA hB A B) | (refine hB ?_; clear hA hB A B) | (refine onV_if ?_ ?_; (focus (first | omega | (refine ⟨?_, ?_⟩ <;> omega))); simp only [onV_s]; refine hA _ _ _ ?_ ?_; (focus (first | (simp [Sm.cs]; done) | (simp [Sm.cs]; omega))); clear hA hB A B))
      | (refine RQ.nl ?_; refine hk _ _ ?_; clear hk k)
      | (refine RQ.st fun A B hA hB => ?_; simp [Sm.cs, onW_t, onW_f, onV_s]; first | (refine hA _ _ _ ?_ (by first | exact .inl rfl | exact .inr (by decide)) ?_; (focus (first | (simp [Sm.cs]; done) | (simp [Sm.cs]; omega))); clear hA hB A B) | (refine hB ?_; clear hA hB A B) | (refine onV_if ?_ ?_; (focus (first | omega | (refine ⟨?_, ?_⟩ <;> omega))); simp only [onV_s]; refine hA _ _ _ ?_ (by first | exact .inl rfl | exact .inr (by decide)) ?_; (focus (first | (simp [Sm.cs]; done) | (simp [Sm.cs]; omega))); clear hA hB A B))
      | refine WP.sr fun k hk => ?_ | refine WP.r fun k hk => ?_
      | refine WP.sd _ rfl fun k hk => ?_ | refine WP.d _ rfl fun k hk => ?_
      | (refine WP.cc fun A B hA hB => ?_; simp [Sm.cs, onB_t, onB_f]; first | (refine hA ?_; clear hA hB A B) | (refine hB ?_; clear hA hB A B) | (refine onB_if (fun h => hA ?_) (fun h => hB ?_) <;> clear hA hB A B))
      | refine WP.q ?_ | refine WP.b ?_)
    simp [bareS, Sm.cs]
  have q4 : (k == 4) = false := by simpa using h4
  by_cases h5 : k = 5
  · subst h5
    repeat' (first
      | refine WP.t ?_ | refine WP.k ?_ | refine WP.e ?_ | refine Qn ?_ | refine Qr ?_ | refine Qe ?_ | refine Bn ?_ | refine Br ?_ | refine Be ?_ | refine Bx (by decide) ?_
      | (refine RS.nl ?_; refine hk _ _ ?_; clear hk k)
      | (refine RS.st fun A B hA hB => ?_; simp [Sm.cs, onW_t, onW_f, onV_s]; first | (refine hA _ _ _ ?_ ?_; (focus (first | (simp [Sm.cs]; done) | (simp [Sm.cs]; omega))); clear hA hB A B) | (refine hB ?_; clear hA hB A B) | (refine onV_if ?_ ?_; (focus (first | omega | (refine ⟨?_, ?_⟩ <;> omega))); simp only [onV_s]; refine hA _ _ _ ?_ ?_; (focus (first | (simp [Sm.cs]; done) | (simp [Sm.cs]; omega))); clear hA hB A B))
      | (refine RQ.nl ?_; refine hk _ _ ?_; clear hk k)
      | (refine RQ.st fun A B hA hB => ?_; simp [Sm.cs, onW_t, onW_f, onV_s]; first | (refine hA _ _ _ ?_ (by first | exact .inl rfl | exact .inr (by decide)) ?_; (focus (first | (simp [Sm.cs]; done) | (simp [Sm.cs]; omega))); clear hA hB A B) | (refine hB ?_; clear hA hB A B) | (refine onV_if ?_ ?_; (focus (first | omega | (refine ⟨?_, ?_⟩ <;> omega))); simp only [onV_s]; refine hA _ _ _ ?_ (by first | exact .inl rfl | exact .inr (by decide)) ?_; (focus (first | (simp [Sm.cs]; done) | (simp [Sm.cs]; omega))); clear hA hB A B))
      | refine WP.sr fun k hk => ?_ | refine WP.r fun k hk => ?_
      | refine WP.sd _ rfl fun k hk => ?_ | refine WP.d _ rfl fun k hk => ?_
      | (refine WP.cc fun A B hA hB => ?_; simp [Sm.cs, onB_t, onB_f]; first | (refine hA ?_; clear hA hB A B) | (refine hB ?_; clear hA hB A B) | (refine onB_if (fun h => hA ?_) (fun h => hB ?_) <;> clear hA hB A B))
      | refine WP.q ?_ | refine WP.b ?_)
    simp [bareS, Sm.cs]
  have q5 : (k == 5) = false := by simpa using h5
  by_cases h6 : k = 6
  · subst h6
    repeat' (first
      | refine WP.t ?_ | refine WP.k ?_ | refine WP.e ?_ | refine Qn ?_ | refine Qr ?_ | refine Qe ?_ | refine Bn ?_ | refine Br ?_ | refine Be ?_ | refine Bx (by decide) ?_
      | (refine RS.nl ?_; refine hk _ _ ?_; clear hk k)
      | (refine RS.st fun A B hA hB => ?_; simp [Sm.cs, onW_t, onW_f, onV_s]; first | (refine hA _ _ _ ?_ ?_; (focus (first | (simp [Sm.cs]; done) | (simp [Sm.cs]; omega))); clear hA hB A B) | (refine hB ?_; clear hA hB A B) | (refine onV_if ?_ ?_; (focus (first | omega | (refine ⟨?_, ?_⟩ <;> omega))); simp only [onV_s]; refine hA _ _ _ ?_ ?_; (focus (first | (simp [Sm.cs]; done) | (simp [Sm.cs]; omega))); clear hA hB A B))
      | (refine RQ.nl ?_; refine hk _ _ ?_; clear hk k)
      | (refine RQ.st fun A B hA hB => ?_; simp [Sm.cs, onW_t, onW_f, onV_s]; first | (refine hA _ _ _ ?_ (by first | exact .inl rfl | exact .inr (by decide)) ?_; (focus (first | (simp [Sm.cs]; done) | (simp [Sm.cs]; omega))); clear hA hB A B) | (refine hB ?_; clear hA hB A B) | (refine onV_if ?_ ?_; (focus (first | omega | (refine ⟨?_, ?_⟩ <;> omega))); simp only [onV_s]; refine hA _ _ _ ?_ (by first | exact .inl rfl | exact .inr (by decide)) ?_; (focus (first | (simp [Sm.cs]; done) | (simp [Sm.cs]; omega))); clear hA hB A B))
      | refine WP.sr fun k hk => ?_ | refine WP.r fun k hk => ?_
      | refine WP.sd _ rfl fun k hk => ?_ | refine WP.d _ rfl fun k hk => ?_
      | (refine WP.cc fun A B hA hB => ?_; simp [Sm.cs, onB_t, onB_f]; first | (refine hA ?_; clear hA hB A B) | (refine hB ?_; clear hA hB A B) | (refine onB_if (fun h => hA ?_) (fun h => hB ?_) <;> clear hA hB A B))
      | refine WP.q ?_ | refine WP.b ?_)
    simp [bareS, Sm.cs]
  have q6 : (k == 6) = false := by simpa using h6
  by_cases h7 : k = 7
  · subst h7
    repeat' (first
      | refine WP.t ?_ | refine WP.k ?_ | refine WP.e ?_ | refine Qn ?_ | refine Qr ?_ | refine Qe ?_ | refine Bn ?_ | refine Br ?_ | refine Be ?_ | refine Bx (by decide) ?_
      | (refine RS.nl ?_; refine hk _ _ ?_; clear hk k)
      | (refine RS.st fun A B hA hB => ?_; simp [Sm.cs, onW_t, onW_f, onV_s]; first | (refine hA _ _ _ ?_ ?_; (focus (first | (simp [Sm.cs]; done) | (simp [Sm.cs]; omega))); clear hA hB A B) | (refine hB ?_; clear hA hB A B) | (refine onV_if ?_ ?_; (focus (first | omega | (refine ⟨?_, ?_⟩ <;> omega))); simp only [onV_s]; refine hA _ _ _ ?_ ?_; (focus (first | (simp [Sm.cs]; done) | (simp [Sm.cs]; omega))); clear hA hB A B))
      | (refine RQ.nl ?_; refine hk _ _ ?_; clear hk k)
      | (refine RQ.st fun A B hA hB => ?_; simp [Sm.cs, onW_t, onW_f, onV_s]; first | (refine hA _ _ _ ?_ (by first | exact .inl rfl | exact .inr (by decide)) ?_; (focus (first | (simp [Sm.cs]; done) | (simp [Sm.cs]; omega))); clear hA hB A B) | (refine hB ?_; clear hA hB A B) | (refine onV_if ?_ ?_; (focus (first | omega | (refine ⟨?_, ?_⟩ <;> omega))); simp only [onV_s]; refine hA _ _ _ ?_ (by first | exact .inl rfl | exact .inr (by decide)) ?_; (focus (first | (simp [Sm.cs]; done) | (simp [Sm.cs]; omega))); clear hA hB A B))
      | refine WP.sr fun k hk => ?_ | refine WP.r fun k hk => ?_
      | refine WP.sd _ rfl fun k hk => ?_ | refine WP.d _ rfl fun k hk => ?_
      | (refine WP.cc fun A B hA hB => ?_; simp [Sm.cs, onB_t, onB_f]; first | (refine hA ?_; clear hA hB A B) | (refine hB ?_; clear hA hB A B) | (refine onB_if (fun h => hA ?_) (fun h => hB ?_) <;> clear hA hB A B))
      | refine WP.q ?_ | refine WP.b ?_)
    simp [bareS, Sm.cs]
  have q7 : (k == 7) = false := by simpa using h7
  by_cases h8 : k = 8
  · subst h8
    repeat' (first
      | refine WP.t ?_ | refine WP.k ?_ | refine WP.e ?_ | refine Qn ?_ | refine Qr ?_ | refine Qe ?_ | refine Bn ?_ | refine Br ?_ | refine Be ?_ | refine Bx (by decide) ?_
      | (refine RS.nl ?_; refine hk _ _ ?_; clear hk k)
      | (refine RS.st fun A B hA hB => ?_; simp [Sm.cs, onW_t, onW_f, onV_s]; first | (refine hA _ _ _ ?_ ?_; (focus (first | (simp [Sm.cs]; done) | (simp [Sm.cs]; omega))); clear hA hB A B) | (refine hB ?_; clear hA hB A B) | (refine onV_if ?_ ?_; (focus (first | omega | (refine ⟨?_, ?_⟩ <;> omega))); simp only [onV_s]; refine hA _ _ _ ?_ ?_; (focus (first | (simp [Sm.cs]; done) | (simp [Sm.cs]; omega))); clear hA hB A B))
      | (refine RQ.nl ?_; refine hk _ _ ?_; clear hk k)
      | (refine RQ.st fun A B hA hB => ?_; simp [Sm.cs, onW_t, onW_f, onV_s]; first | (refine hA _ _ _ ?_ (by first | exact .inl rfl | exact .inr (by decide)) ?_; (focus (first | (simp [Sm.cs]; done) | (simp [Sm.cs]; omega))); clear hA hB A B) | (refine hB ?_; clear hA hB A B) | (refine onV_if ?_ ?_; (focus (first | omega | (refine ⟨?_, ?_⟩ <;> omega))); simp only [onV_s]; refine hA _ _ _ ?_ (by first | exact .inl rfl | exact .inr (by decide)) ?_; (focus (first | (simp [Sm.cs]; done) | (simp [Sm.cs]; omega))); clear hA hB A B))
      | refine WP.sr fun k hk => ?_ | refine WP.r fun k hk => ?_
      | refine WP.sd _ rfl fun k hk => ?_ | refine WP.d _ rfl fun k hk => ?_
      | (refine WP.cc fun A B hA hB => ?_; simp [Sm.cs, onB_t, onB_f]; first | (refine hA ?_; clear hA hB A B) | (refine hB ?_; clear hA hB A B) | (refine onB_if (fun h => hA ?_) (fun h => hB ?_) <;> clear hA hB A B))
      | refine WP.q ?_ | refine WP.b ?_)
    simp [bareS, Sm.cs]
  have q8 : (k == 8) = false := by simpa using h8
  repeat' (first
    | refine WP.t ?_ | refine WP.k ?_ | refine WP.e ?_ | refine Qn ?_ | refine Qr ?_ | refine Qe ?_ | refine Bn ?_ | refine Br ?_ | refine Be ?_ | refine Bx (by decide) ?_
    | (refine RS.nl ?_; refine hk _ _ ?_; clear hk k)
    | (refine RS.st fun A B hA hB => ?_; simp [Sm.cs, q1, q2, q3, q4, q5, q6, q7, q8, onW_t, onW_f, onV_s]; first | (refine hA _ _ _ ?_ ?_; (focus (first | (simp [Sm.cs, q1, q2, q3, q4, q5, q6, q7, q8]; done) | (simp [Sm.cs, q1, q2, q3, q4, q5, q6, q7, q8]; omega))); clear hA hB A B) | (refine hB ?_; clear hA hB A B) | (refine onV_if ?_ ?_; (focus (first | omega | (refine ⟨?_, ?_⟩ <;> omega))); simp only [onV_s]; refine hA _ _ _ ?_ ?_; (focus (first | (simp [Sm.cs, q1, q2, q3, q4, q5, q6, q7, q8]; done) | (simp [Sm.cs, q1, q2, q3, q4, q5, q6, q7, q8]; omega))); clear hA hB A B))
    | (refine RQ.nl ?_; refine hk _ _ ?_; clear hk k)
    | (refine RQ.st fun A B hA hB => ?_; simp [Sm.cs, q1, q2, q3, q4, q5, q6, q7, q8, onW_t, onW_f, onV_s]; first | (refine hA _ _ _ ?_ (by first | exact .inl rfl | exact .inr (by decide)) ?_; (focus (first | (simp [Sm.cs, q1, q2, q3, q4, q5, q6, q7, q8]; done) | (simp [Sm.cs, q1, q2, q3, q4, q5, q6, q7, q8]; omega))); clear hA hB A B) | (refine hB ?_; clear hA hB A B) | (refine onV_if ?_ ?_; (focus (first | omega | (refine ⟨?_, ?_⟩ <;> omega))); simp only [onV_s]; refine hA _ _ _ ?_ (by first | exact .inl rfl | exact .inr (by decide)) ?_; (focus (first | (simp [Sm.cs, q1, q2, q3, q4, q5, q6, q7, q8]; done) | (simp [Sm.cs, q1, q2, q3, q4, q5, q6, q7, q8]; omega))); clear hA hB A B))
    | refine WP.sr fun k hk => ?_ | refine WP.r fun k hk => ?_
    | refine WP.sd _ rfl fun k hk => ?_ | refine WP.d _ rfl fun k hk => ?_
    | (refine WP.cc fun A B hA hB => ?_; simp [Sm.cs, q1, q2, q3, q4, q5, q6, q7, q8, onB_t, onB_f]; first | (refine hA ?_; clear hA hB A B) | (refine hB ?_; clear hA hB A B) | (refine onB_if (fun h => hA ?_) (fun h => hB ?_) <;> clear hA hB A B))
    | refine WP.q ?_ | refine WP.b ?_)
  simp [bareS, Sm.cs, h1, h2, h3, h4, h5, h6, h7, h8]
end
end Go.Am
namespace Go.Am
open Go.Proofs Go.Shelf
section
variable {K : Nat} {gw : World} {s : St}
attribute [local simp] awanted xop zOf zrow aop ev T0 Slots.put Slots.set Slots.get awr WOk AV.may ofConst abinop aint isConst St.get_push St.get_put St.live AV.fit AV.cells AV.one fieldOf afieldAddr aload ofCells astore splice May eqres env_ti FinP FinZ FinW ares aresL ares1 Fns.addP Fns.add Fns.a0 Fns.a1 Fns.a2 Fns.a3 Fns.a4 abuiltin alenOk alen aindex elemOfT elemId abuildSlice afill chunks ard aappend isSS AV.isStr aminmax placesOf abuild afield aidx isStrD isStrDesc astrop aslice asliceOk abound arange anext aextract aunop aeq AV.ck avseq aveq aconv aconvert onB_t onB_f List.range_succ ti0 ti1 ti2 ti3 ti4 ti5 ti6 ti7 ti8 ti9 ti10 ti11 ti12 ti13 ti14 ti15 ti16 ti17 ti18 ti19 ti20 ti21 ti22 ti23 ti24 ti25 ti26 ti27 ti28 ti29 ti30 ti31 ti32 ti33 ti34 ti35 ti36 ti37 ti38 ti39 ti40 ti41 ti42 ti43 ti44 ti45 ti46 ti47 ti48 ti49 ti50 ti51 ti52 ti53 ti54 ti55 ti56 ti57 ti58 ti59 ti60 ti61 ti62 ti63 ti64 ti65 ti66 ti67 ti68 ti69 ti70 ti71 ti72 ti73 ti74 ti75 ti76 ti77 ti78 ti79 ti80 ti81 ti82 ti83 ti84 ti85 ti86 ti87 ti88 ti89 ti90 ti91 ti92 ti93 ti94 ti95 ti96 ti97 ti98 ti99 ti100 ti101
def RC : Fns := (((RB.a1 21 vStr fun x => if x.length < LIM then some (.bool (nameB x)) else none).a1 34 vStr fun x => some (.bool (opB x))).a1 35 (vInt .i64) fun n => some (.bool (nodeB n))).a1 33 (vAgg cSm) fun m => some (.agg (bareS m).cs)
theorem RC_ok : FOk (env K gw) RC := by
  refine (((RB_ok.a1 ?_).a1 ?_).a1 ?_).a1 ?_
  · intro x s r h; split at h <;> cases h; exact ft_Name2 x ‹_›
  · intro x s r h; cases h; exact ft_Op2 x
  · intro x s r h; cases h; exact ft_node2 x
  · intro x s r h; cases h; exact ft_bare x
set_option maxHeartbeats 4000000 in
theorem ft_MayR1 (x y z o : Str) (n a b : Int) (hx : x.length < LIM) (hy : y.length < LIM) (hz : z.length < LIM) (ho : o.length < LIM) : FT (env K gw) NoW 17 [.agg (Sm.mk 1 x y z o n a b).cs] s (.bool (mayB ⟨1, x, y, z, o, n, a, b⟩)) s := by
  refine FT.pure (fn := Tryd.f17) RC_ok mixed Tryd.func17 (by kernel_rfl) (by rfl) rfl rfl (by simp) rfl fun μ w => ?_
  have hbare : bareS ⟨1, x, y, z, o, n, a, b⟩ = (⟨1, x, [], [], [], n, 0, 0⟩ : Sm) := by simp [bareS]
  cases hnx : nameB x
  all_goals
    repeat' (first
      | refine WP.t ?_ | refine WP.k ?_ | refine WP.e ?_ | refine Qn ?_ | refine Qr ?_ | refine Qe ?_ | refine Bn ?_ | refine Br ?_ | refine Be ?_ | refine Bx (by decide) ?_
      | (refine RS.nl ?_; refine hk _ _ ?_; clear hk k)
      | (refine RS.st fun A B hA hB => ?_; simp [RB, RC, Sm.cs, hx, hy, hz, ho, kS, hbare, hnx, onW_t, onW_f, onV_s]; first | (refine hA _ _ _ ?_ ?_; (focus (first | (simp [RB, RC, Sm.cs, hx, hy, hz, ho, kS, hbare, hnx]; done) | (simp [RB, RC, Sm.cs, hx, hy, hz, ho, kS, hbare, hnx]; omega))); clear hA hB A B) | (refine hB ?_; clear hA hB A B) | (refine onV_if ?_ ?_; (focus (first | omega | (refine ⟨?_, ?_⟩ <;> omega))); simp only [onV_s]; refine hA _ _ _ ?_ ?_; (focus (first | (simp [RB, RC, Sm.cs, hx, hy, hz, ho, kS, hbare, hnx]; done) | (simp [RB, RC, Sm.cs, hx, hy, hz, ho, kS, hbare, hnx]; omega))); clear hA hB A B))
      | (refine RQ.nl ?_; refine hk _ _ ?_; clear hk k)
      | (refine RQ.st fun A B hA hB => ?_; simp [RB, RC, Sm.cs, hx, hy, hz, ho, kS, hbare, hnx, onW_t, onW_f, onV_s]; first | (refine hA _ _ _ ?_ (by first | exact .inl rfl | exact .inr (by decide)) ?_; (focus (first | (simp [RB, RC, Sm.cs, hx, hy, hz, ho, kS, hbare, hnx]; done) | (simp [RB, RC, Sm.cs, hx, hy, hz, ho, kS, hbare, hnx]; omega))); clear hA hB A B) | (refine hB ?_; clear hA hB A B) | (refine onV_if ?_ ?_; (focus (first | omega | (refine ⟨?_, ?_⟩ <;> omega))); simp only [onV_s]; refine hA _ _ _ ?_ (by first | exact .inl rfl | exact .inr (by decide)) ?_; (focus (first | (simp [RB, RC, Sm.cs, hx, hy, hz, ho, kS, hbare, hnx]; done) | (simp [RB, RC, Sm.cs, hx, hy, hz, ho, kS, hbare, hnx]; omega))); clear hA hB A B))
      | refine WP.sr fun k hk => ?_ | refine WP.r fun k hk => ?_
      | refine WP.sd _ rfl fun k hk => ?_ | refine WP.d _ rfl fun k hk => ?_
      | (refine WP.cc fun A B hA hB => ?_; simp [RB, RC, Sm.cs, hx, hy, hz, ho, kS, hbare, hnx, onB_t, onB_f]; first | (refine hA ?_; clear hA hB A B) | (refine hB ?_; clear hA hB A B) | (refine onB_if (fun h => hA ?_) (fun h => hB ?_) <;> clear hA hB A B))
      | refine WP.q ?_ | refine WP.b ?_)
    all_goals first | (simp [mayB, fitS, hbare, hnx]; done) | (simp [mayB, fitS, hbare, hnx]; rw [Bool.eq_iff_iff]; simp; done) | (simp at h; simp [mayB, fitS, hbare, hnx, h]; done) | (simp at h; simp [mayB, fitS, hbare, hnx]; intros; simp_all; done) | skip
set_option maxHeartbeats 4000000 in
theorem ft_MayR2 (x y z o : Str) (n a b : Int) (hx : x.length < LIM) (hy : y.length < LIM) (hz : z.length < LIM) (ho : o.length < LIM) : FT (env K gw) NoW 17 [.agg (Sm.mk 2 x y z o n a b).cs] s (.bool (mayB ⟨2, x, y, z, o, n, a, b⟩)) s := by
  refine FT.pure (fn := Tryd.f17) RC_ok mixed Tryd.func17 (by kernel_rfl) (by rfl) rfl rfl (by simp) rfl fun μ w => ?_
  have hbare : bareS ⟨2, x, y, z, o, n, a, b⟩ = (⟨2, x, y, z, o, 0, 0, 0⟩ : Sm) := by simp [bareS]
  cases hnx : nameB x <;> cases hny : nameB y <;> cases hnz : nameB z <;> cases hop : opB o
  all_goals
    repeat' (first
      | refine WP.t ?_ | refine WP.k ?_ | refine WP.e ?_ | refine Qn ?_ | refine Qr ?_ | refine Qe ?_ | refine Bn ?_ | refine Br ?_ | refine Be ?_ | refine Bx (by decide) ?_
      | (refine RS.nl ?_; refine hk _ _ ?_; clear hk k)
      | (refine RS.st fun A B hA hB => ?_; simp [RB, RC, Sm.cs, hx, hy, hz, ho, kS, hbare, hnx, hny, hnz, hop, onW_t, onW_f, onV_s]; first | (refine hA _ _ _ ?_ ?_; (focus (first | (simp [RB, RC, Sm.cs, hx, hy, hz, ho, kS, hbare, hnx, hny, hnz, hop]; done) | (simp [RB, RC, Sm.cs, hx, hy, hz, ho, kS, hbare, hnx, hny, hnz, hop]; omega))); clear hA hB A B) | (refine hB ?_; clear hA hB A B) | (refine onV_if ?_ ?_; (focus (first | omega | (refine ⟨?_, ?_⟩ <;> omega))); simp only [onV_s]; refine hA _ _ _ ?_ ?_; (focus (first | (simp [RB, RC, Sm.cs, hx, hy, hz, ho, kS, hbare, hnx, hny, hnz, hop]; done) | (simp [RB, RC, Sm.cs, hx, hy, hz, ho, kS, hbare, hnx, hny, hnz, hop]; omega))); clear hA hB A B))
      | (refine RQ.nl ?_; refine hk _ _ ?_; clear hk k)
      | (refine RQ.st fun A B hA hB => ?_; simp [RB, RC, Sm.cs, hx, hy, hz, ho, kS, hbare, hnx, hny, hnz, hop, onW_t, onW_f, onV_s]; first | (refine hA _ _ _ ?_ (by first | exact .inl rfl | exact .inr (by decide)) ?_; (focus (first | (simp [RB, RC, Sm.cs, hx, hy, hz, ho, kS, hbare, hnx, hny, hnz, hop]; done) | (simp [RB, RC, Sm.cs, hx, hy, hz, ho, kS, hbare, hnx, hny, hnz, hop]; omega))); clear hA hB A B) | (refine hB ?_; clear hA hB A B) | (refine onV_if ?_ ?_; (focus (first | omega | (refine ⟨?_, ?_⟩ <;> omega))); simp only [onV_s]; refine hA _ _ _ ?_ (by first | exact .inl rfl | exact .inr (by decide)) ?_; (focus (first | (simp [RB, RC, Sm.cs, hx, hy, hz, ho, kS, hbare, hnx, hny, hnz, hop]; done) | (simp [RB, RC, Sm.cs, hx, hy, hz, ho, kS, hbare, hnx, hny, hnz, hop]; omega))); clear hA hB A B))
      | refine WP.sr fun k hk => ?_ | refine WP.r fun k hk => ?_
      | refine WP.sd _ rfl fun k hk => ?_ | refine WP.d _ rfl fun k hk => ?_
      | (refine WP.cc fun A B hA hB => ?_; simp [RB, RC, Sm.cs, hx, hy, hz, ho, kS, hbare, hnx, hny, hnz, hop, onB_t, onB_f]; first | (refine hA ?_; clear hA hB A B) | (refine hB ?_; clear hA hB A B) | (refine onB_if (fun h => hA ?_) (fun h => hB ?_) <;> clear hA hB A B))
      | refine WP.q ?_ | refine WP.b ?_)
    all_goals first | (simp [mayB, fitS, hbare, hnx, hny, hnz, hop]; done) | (simp [mayB, fitS, hbare, hnx, hny, hnz, hop]; rw [Bool.eq_iff_iff]; simp; done) | (simp at h; simp [mayB, fitS, hbare, hnx, hny, hnz, hop, h]; done) | (simp at h; simp [mayB, fitS, hbare, hnx, hny, hnz, hop]; intros; simp_all; done) | skip
set_option maxHeartbeats 4000000 in
theorem ft_MayR3 (x y z o : Str) (n a b : Int) (hx : x.length < LIM) (hy : y.length < LIM) (hz : z.length < LIM) (ho : o.length < LIM) : FT (env K gw) NoW 17 [.agg (Sm.mk 3 x y z o n a b).cs] s (.bool (mayB ⟨3, x, y, z, o, n, a, b⟩)) s := by
  refine FT.pure (fn := Tryd.f17) RC_ok mixed Tryd.func17 (by kernel_rfl) (by rfl) rfl rfl (by simp) rfl fun μ w => ?_
  have hbare : bareS ⟨3, x, y, z, o, n, a, b⟩ = (⟨3, x, y, [], [], 0, 0, 0⟩ : Sm) := by simp [bareS]
  cases hnx : nameB x <;> cases hny : nameB y
  all_goals
    repeat' (first
      | refine WP.t ?_ | refine WP.k ?_ | refine WP.e ?_ | refine Qn ?_ | refine Qr ?_ | refine Qe ?_ | refine Bn ?_ | refine Br ?_ | refine Be ?_ | refine Bx (by decide) ?_
      | (refine RS.nl ?_; refine hk _ _ ?_; clear hk k)
      | (refine RS.st fun A B hA hB => ?_; simp [RB, RC, Sm.cs, hx, hy, hz, ho, kS, hbare, hnx, hny, onW_t, onW_f, onV_s]; first | (refine hA _ _ _ ?_ ?_; (focus (first | (simp [RB, RC, Sm.cs, hx, hy, hz, ho, kS, hbare, hnx, hny]; done) | (simp [RB, RC, Sm.cs, hx, hy, hz, ho, kS, hbare, hnx, hny]; omega))); clear hA hB A B) | (refine hB ?_; clear hA hB A B) | (refine onV_if ?_ ?_; (focus (first | omega | (refine ⟨?_, ?_⟩ <;> omega))); simp only [onV_s]; refine hA _ _ _ ?_ ?_; (focus (first | (simp [RB, RC, Sm.cs, hx, hy, hz, ho, kS, hbare, hnx, hny]; done) | (simp [RB, RC, Sm.cs, hx, hy, hz, ho, kS, hbare, hnx, hny]; omega))); clear hA hB A B))
      | (refine RQ.nl ?_; refine hk _ _ ?_; clear hk k)
      | (refine RQ.st fun A B hA hB => ?_; simp [RB, RC, Sm.cs, hx, hy, hz, ho, kS, hbare, hnx, hny, onW_t, onW_f, onV_s]; first | (refine hA _ _ _ ?_ (by first | exact .inl rfl | exact .inr (by decide)) ?_; (focus (first | (simp [RB, RC, Sm.cs, hx, hy, hz, ho, kS, hbare, hnx, hny]; done) | (simp [RB, RC, Sm.cs, hx, hy, hz, ho, kS, hbare, hnx, hny]; omega))); clear hA hB A B) | (refine hB ?_; clear hA hB A B) | (refine onV_if ?_ ?_; (focus (first | omega | (refine ⟨?_, ?_⟩ <;> omega))); simp only [onV_s]; refine hA _ _ _ ?_ (by first | exact .inl rfl | exact .inr (by decide)) ?_; (focus (first | (simp [RB, RC, Sm.cs, hx, hy, hz, ho, kS, hbare, hnx, hny]; done) | (simp [RB, RC, Sm.cs, hx, hy, hz, ho, kS, hbare, hnx, hny]; omega))); clear hA hB A B))
      | refine WP.sr fun k hk => ?_ | refine WP.r fun k hk => ?_
      | refine WP.sd _ rfl fun k hk => ?_ | refine WP.d _ rfl fun k hk => ?_
      | (refine WP.cc fun A B hA hB => ?_; simp [RB, RC, Sm.cs, hx, hy, hz, ho, kS, hbare, hnx, hny, onB_t, onB_f]; first | (refine hA ?_; clear hA hB A B) | (refine hB ?_; clear hA hB A B) | (refine onB_if (fun h => hA ?_) (fun h => hB ?_) <;> clear hA hB A B))
      | refine WP.q ?_ | refine WP.b ?_)
    all_goals first | (simp [mayB, fitS, hbare, hnx, hny]; done) | (simp [mayB, fitS, hbare, hnx, hny]; rw [Bool.eq_iff_iff]; simp; done) | (simp at h; simp [mayB, fitS, hbare, hnx, hny, h]; done) | (simp at h; simp [mayB, fitS, hbare, hnx, hny]; intros; simp_all; done) | skip
set_option maxHeartbeats 4000000 in
theorem ft_MayR4 (x y z o : Str) (n a b : Int) (hx : x.length < LIM) (hy : y.length < LIM) (hz : z.length < LIM) (ho : o.length < LIM) : FT (env K gw) NoW 17 [.agg (Sm.mk 4 x y z o n a b).cs] s (.bool (mayB ⟨4, x, y, z, o, n, a, b⟩)) s := by
  refine FT.pure (fn := Tryd.f17) RC_ok mixed Tryd.func17 (by kernel_rfl) (by rfl) rfl rfl (by simp) rfl fun μ w => ?_
  have hbare : bareS ⟨4, x, y, z, o, n, a, b⟩ = (⟨4, x, [], [], [], 0, 0, 0⟩ : Sm) := by simp [bareS]
  cases hnx : nameB x
  all_goals
    repeat' (first
      | refine WP.t ?_ | refine WP.k ?_ | refine WP.e ?_ | refine Qn ?_ | refine Qr ?_ | refine Qe ?_ | refine Bn ?_ | refine Br ?_ | refine Be ?_ | refine Bx (by decide) ?_
      | (refine RS.nl ?_; refine hk _ _ ?_; clear hk k)
      | (refine RS.st fun A B hA hB => ?_; simp [RB, RC, Sm.cs, hx, hy, hz, ho, kS, hbare, hnx, onW_t, onW_f, onV_s]; first | (refine hA _ _ _ ?_ ?_; (focus (first | (simp [RB, RC, Sm.cs, hx, hy, hz, ho, kS, hbare, hnx]; done) | (simp [RB, RC, Sm.cs, hx, hy, hz, ho, kS, hbare, hnx]; omega))); clear hA hB A B) | (refine hB ?_; clear hA hB A B) | (refine onV_if ?_ ?_; (focus (first | omega | (refine ⟨?_, ?_⟩ <;> omega))); simp only [onV_s]; refine hA _ _ _ ?_ ?_; (focus (first | (simp [RB, RC, Sm.cs, hx, hy, hz, ho, kS, hbare, hnx]; done) | (simp [RB, RC, Sm.cs, hx, hy, hz, ho, kS, hbare, hnx]; omega))); clear hA hB A B))
      | (refine RQ.nl ?_; refine hk _ _ ?_; clear hk k)
      | (refine RQ.st fun A B hA hB => ?_; simp [RB, RC, Sm.cs, hx, hy, hz, ho, kS, hbare, hnx, onW_t, onW_f, onV_s]; first | (refine hA _ _ _ ?_ (by first | exact .inl rfl | exact .inr (by decide)) ?_; (focus (first | (simp [RB, RC, Sm.cs, hx, hy, hz, ho, kS, hbare, hnx]; done) | (simp [RB, RC, Sm.cs, hx, hy, hz, ho, kS, hbare, hnx]; omega))); clear hA hB A B) | (refine hB ?_; clear hA hB A B) | (refine onV_if ?_ ?_; (focus (first | omega | (refine ⟨?_, ?_⟩ <;> omega))); simp only [onV_s]; refine hA _ _ _ ?_ (by first | exact .inl rfl | exact .inr (by decide)) ?_; (focus (first | (simp [RB, RC, Sm.cs, hx, hy, hz, ho, kS, hbare, hnx]; done) | (simp [RB, RC, Sm.cs, hx, hy, hz, ho, kS, hbare, hnx]; omega))); clear hA hB A B))
      | refine WP.sr fun k hk => ?_ | refine WP.r fun k hk => ?_
      | refine WP.sd _ rfl fun k hk => ?_ | refine WP.d _ rfl fun k hk => ?_
      | (refine WP.cc fun A B hA hB => ?_; simp [RB, RC, Sm.cs, hx, hy, hz, ho, kS, hbare, hnx, onB_t, onB_f]; first | (refine hA ?_; clear hA hB A B) | (refine hB ?_; clear hA hB A B) | (refine onB_if (fun h => hA ?_) (fun h => hB ?_) <;> clear hA hB A B))
      | refine WP.q ?_ | refine WP.b ?_)
    all_goals first | (simp [mayB, fitS, hbare, hnx]; done) | (simp [mayB, fitS, hbare, hnx]; rw [Bool.eq_iff_iff]; simp; done) | (simp at h; simp [mayB, fitS, hbare, hnx, h]; done) | (simp at h; simp [mayB, fitS, hbare, hnx]; intros; simp_all; done) | skip
set_option maxHeartbeats 4000000 in
theorem ft_MayR5 (x y z o : Str) (n a b : Int) (hx : x.length < LIM) (hy : y.length < LIM) (hz : z.length < LIM) (ho : o.length < LIM) : FT (env K gw) NoW 17 [.agg (Sm.mk 5 x y z o n a b).cs] s (.bool (mayB ⟨5, x, y, z, o, n, a, b⟩)) s := by
  refine FT.pure (fn := Tryd.f17) RC_ok mixed Tryd.func17 (by kernel_rfl) (by rfl) rfl rfl (by simp) rfl fun μ w => ?_
  have hbare : bareS ⟨5, x, y, z, o, n, a, b⟩ = (⟨5, x, y, [], [], 0, 0, 0⟩ : Sm) := by simp [bareS]
  cases hnx : nameB x <;> cases hny : nameB y
  all_goals
    repeat' (first
      | refine WP.t ?_ | refine WP.k ?_ | refine WP.e ?_ | refine Qn ?_ | refine Qr ?_ | refine Qe ?_ | refine Bn ?_ | refine Br ?_ | refine Be ?_ | refine Bx (by decide) ?_
      | (refine RS.nl ?_; refine hk _ _ ?_; clear hk k)
      | (refine RS.st fun A B hA hB => ?_; simp [RB, RC, Sm.cs, hx, hy, hz, ho, kS, hbare, hnx, hny, onW_t, onW_f, onV_s]; first | (refine hA _ _ _ ?_ ?_; (focus (first | (simp [RB, RC, Sm.cs, hx, hy, hz, ho, kS, hbare, hnx, hny]; done) | (simp [RB, RC, Sm.cs, hx, hy, hz, ho, kS, hbare, hnx, hny]; omega))); clear hA hB A B) | (refine hB ?_; clear hA hB A B) | (refine onV_if ?_ ?_; (focus (first | omega | (refine ⟨?_, ?_⟩ <;> omega))); simp only [onV_s]; refine hA _ _ _ ?_ ?_; (focus (first | (simp [RB, RC, Sm.cs, hx, hy, hz, ho, kS, hbare, hnx, hny]; done) | (simp [RB, RC, Sm.cs, hx, hy, hz, ho, kS, hbare, hnx, hny]; omega))); clear hA hB A B))
      | (refine RQ.nl ?_; refine hk _ _ ?_; clear hk k)
      | (refine RQ.st fun A B hA hB => ?_; simp [RB, RC, Sm.cs, hx, hy, hz, ho, kS, hbare, hnx, hny, onW_t, onW_f, onV_s]; first | (refine hA _ _ _ ?_ (by first | exact .inl rfl | exact .inr (by decide)) ?_; (focus (first | (simp [RB, RC, Sm.cs, hx, hy, hz, ho, kS, hbare, hnx, hny]; done) | (simp [RB, RC, Sm.cs, hx, hy, hz, ho, kS, hbare, hnx, hny]; omega))); clear hA hB A B) | (refine hB ?_; clear hA hB A B) | (refine onV_if ?_ ?_; (focus (first | omega | (refine ⟨?_, ?_⟩ <;> omega))); simp only [onV_s]; refine hA _ _ _ ?_ (by first | exact .inl rfl | exact .inr (by decide)) ?_; (focus (first | (simp [RB, RC, Sm.cs, hx, hy, hz, ho, kS, hbare, hnx, hny]; done) | (simp [RB, RC, Sm.cs, hx, hy, hz, ho, kS, hbare, hnx, hny]; omega))); clear hA hB A B))
      | refine WP.sr fun k hk => ?_ | refine WP.r fun k hk => ?_
      | refine WP.sd _ rfl fun k hk => ?_ | refine WP.d _ rfl fun k hk => ?_
      | (refine WP.cc fun A B hA hB => ?_; simp [RB, RC, Sm.cs, hx, hy, hz, ho, kS, hbare, hnx, hny, onB_t, onB_f]; first | (refine hA ?_; clear hA hB A B) | (refine hB ?_; clear hA hB A B) | (refine onB_if (fun h => hA ?_) (fun h => hB ?_) <;> clear hA hB A B))
      | refine WP.q ?_ | refine WP.b ?_)
    all_goals first | (simp [mayB, fitS, hbare, hnx, hny]; done) | (simp [mayB, fitS, hbare, hnx, hny]; rw [Bool.eq_iff_iff]; simp; done) | (simp at h; simp [mayB, fitS, hbare, hnx, hny, h]; done) | (simp at h; simp [mayB, fitS, hbare, hnx, hny]; intros; simp_all; done) | skip
set_option maxHeartbeats 4000000 in
theorem ft_MayR6 (x y z o : Str) (n a b : Int) (hx : x.length < LIM) (hy : y.length < LIM) (hz : z.length < LIM) (ho : o.length < LIM) : FT (env K gw) NoW 17 [.agg (Sm.mk 6 x y z o n a b).cs] s (.bool (mayB ⟨6, x, y, z, o, n, a, b⟩)) s := by
  refine FT.pure (fn := Tryd.f17) RC_ok mixed Tryd.func17 (by kernel_rfl) (by rfl) rfl rfl (by simp) rfl fun μ w => ?_
  have hbare : bareS ⟨6, x, y, z, o, n, a, b⟩ = (⟨6, [], y, [], [], 0, 0, 0⟩ : Sm) := by simp [bareS]
  cases hny : nameB y
  all_goals
    repeat' (first
      | refine WP.t ?_ | refine WP.k ?_ | refine WP.e ?_ | refine Qn ?_ | refine Qr ?_ | refine Qe ?_ | refine Bn ?_ | refine Br ?_ | refine Be ?_ | refine Bx (by decide) ?_
      | (refine RS.nl ?_; refine hk _ _ ?_; clear hk k)
      | (refine RS.st fun A B hA hB => ?_; simp [RB, RC, Sm.cs, hx, hy, hz, ho, kS, hbare, hny, onW_t, onW_f, onV_s]; first | (refine hA _ _ _ ?_ ?_; (focus (first | (simp [RB, RC, Sm.cs, hx, hy, hz, ho, kS, hbare, hny]; done) | (simp [RB, RC, Sm.cs, hx, hy, hz, ho, kS, hbare, hny]; omega))); clear hA hB A B) | (refine hB ?_; clear hA hB A B) | (refine onV_if ?_ ?_; (focus (first | omega | (refine ⟨?_, ?_⟩ <;> omega))); simp only [onV_s]; refine hA _ _ _ ?_ ?_; (focus (first | (simp [RB, RC, Sm.cs, hx, hy, hz, ho, kS, hbare, hny]; done) | (simp [RB, RC, Sm.cs, hx, hy, hz, ho, kS, hbare, hny]; omega))); clear hA hB A B))
      | (refine RQ.nl ?_; refine hk _ _ ?_; clear hk k)
      | (refine RQ.st fun A B hA hB => ?_; simp [RB, RC, Sm.cs, hx, hy, hz, ho, kS, hbare, hny, onW_t, onW_f, onV_s]; first | (refine hA _ _ _ ?_ (by first | exact .inl rfl | exact .inr (by decide)) ?_; (focus (first | (simp [RB, RC, Sm.cs, hx, hy, hz, ho, kS, hbare, hny]; done) | (simp [RB, RC, Sm.cs, hx, hy, hz, ho, kS, hbare, hny]; omega))); clear hA hB A B) | (refine hB ?_; clear hA hB A B) | (refine onV_if ?_ ?_; (focus (first | omega | (refine ⟨?_, ?_⟩ <;> omega))); simp only [onV_s]; refine hA _ _ _ ?_ (by first | exact .inl rfl | exact .inr (by decide)) ?_; (focus (first | (simp [RB, RC, Sm.cs, hx, hy, hz, ho, kS, hbare, hny]; done) | (simp [RB, RC, Sm.cs, hx, hy, hz, ho, kS, hbare, hny]; omega))); clear hA hB A B))
      | refine WP.sr fun k hk => ?_ | refine WP.r fun k hk => ?_
      | refine WP.sd _ rfl fun k hk => ?_ | refine WP.d _ rfl fun k hk => ?_
      | (refine WP.cc fun A B hA hB => ?_; simp [RB, RC, Sm.cs, hx, hy, hz, ho, kS, hbare, hny, onB_t, onB_f]; first | (refine hA ?_; clear hA hB A B) | (refine hB ?_; clear hA hB A B) | (refine onB_if (fun h => hA ?_) (fun h => hB ?_) <;> clear hA hB A B))
      | refine WP.q ?_ | refine WP.b ?_)
    all_goals first | (simp [mayB, fitS, hbare, hny]; done) | (simp [mayB, fitS, hbare, hny]; rw [Bool.eq_iff_iff]; simp; done) | (simp at h; simp [mayB, fitS, hbare, hny, h]; done) | (simp at h; simp [mayB, fitS, hbare, hny]; intros; simp_all; done) | skip
set_option maxHeartbeats 4000000 in
theorem ft_MayR7 (x y z o : Str) (n a b : Int) (hx : x.length < LIM) (hy : y.length < LIM) (hz : z.length < LIM) (ho : o.length < LIM) : FT (env K gw) NoW 17 [.agg (Sm.mk 7 x y z o n a b).cs] s (.bool (mayB ⟨7, x, y, z, o, n, a, b⟩)) s := by
  refine FT.pure (fn := Tryd.f17) RC_ok mixed Tryd.func17 (by kernel_rfl) (by rfl) rfl rfl (by simp) rfl fun μ w => ?_
  have hbare : bareS ⟨7, x, y, z, o, n, a, b⟩ = (⟨7, [], y, [], [], 0, a, b⟩ : Sm) := by simp [bareS]
  cases hny : nameB y <;> cases hna : nodeB a <;> cases hnb : nodeB b
  all_goals
    repeat' (first
      | refine WP.t ?_ | refine WP.k ?_ | refine WP.e ?_ | refine Qn ?_ | refine Qr ?_ | refine Qe ?_ | refine Bn ?_ | refine Br ?_ | refine Be ?_ | refine Bx (by decide) ?_
      | (refine RS.nl ?_; refine hk _ _ ?_; clear hk k)
      | (refine RS.st fun A B hA hB => ?_; simp [RB, RC, Sm.cs, hx, hy, hz, ho, kS, hbare, hny, hna, hnb, onW_t, onW_f, onV_s]; first | (refine hA _ _ _ ?_ ?_; (focus (first | (simp [RB, RC, Sm.cs, hx, hy, hz, ho, kS, hbare, hny, hna, hnb]; done) | (simp [RB, RC, Sm.cs, hx, hy, hz, ho, kS, hbare, hny, hna, hnb]; omega))); clear hA hB A B) | (refine hB ?_; clear hA hB A B) | (refine onV_if ?_ ?_; (focus (first | omega | (refine ⟨?_, ?_⟩ <;> omega))); simp only [onV_s]; refine hA _ _ _ ?_ ?_; (focus (first | (simp [RB, RC, Sm.cs, hx, hy, hz, ho, kS, hbare, hny, hna, hnb]; done) | (simp [RB, RC, Sm.cs, hx, hy, hz, ho, kS, hbare, hny, hna, hnb]; omega))); clear hA hB A B))
      | (refine RQ.nl ?_; refine hk _ _ ?_; clear hk k)
      | (refine RQ.st fun A B hA hB => ?_; simp [RB, RC, Sm.cs, hx, hy, hz, ho, kS, hbare, hny, hna, hnb, onW_t, onW_f, onV_s]; first | (refine hA _ _ _ ?_ (by first | exact .inl rfl | exact .inr (by decide)) ?_; (focus (first | (simp [RB, RC, Sm.cs, hx, hy, hz, ho, kS, hbare, hny, hna, hnb]; done) | (simp [RB, RC, Sm.cs, hx, hy, hz, ho, kS, hbare, hny, hna, hnb]; omega))); clear hA hB A B) | (refine hB ?_; clear hA hB A B) | (refine onV_if ?_ ?_; (focus (first | omega | (refine ⟨?_, ?_⟩ <;> omega))); simp only [onV_s]; refine hA _ _ _ ?_ (by first | exact .inl rfl | exact .inr (by decide)) ?_; (focus (first | (simp [RB, RC, Sm.cs, hx, hy, hz, ho, kS, hbare, hny, hna, hnb]; done) | (simp [RB, RC, Sm.cs, hx, hy, hz, ho, kS, hbare, hny, hna, hnb]; omega))); clear hA hB A B))
      | refine WP.sr fun k hk => ?_ | refine WP.r fun k hk => ?_
      | refine WP.sd _ rfl fun k hk => ?_ | refine WP.d _ rfl fun k hk => ?_
      | (refine WP.cc fun A B hA hB => ?_; simp [RB, RC, Sm.cs, hx, hy, hz, ho, kS, hbare, hny, hna, hnb, onB_t, onB_f]; first | (refine hA ?_; clear hA hB A B) | (refine hB ?_; clear hA hB A B) | (refine onB_if (fun h => hA ?_) (fun h => hB ?_) <;> clear hA hB A B))
      | refine WP.q ?_ | refine WP.b ?_)
    all_goals first | (simp [mayB, fitS, hbare, hny, hna, hnb]; done) | (simp [mayB, fitS, hbare, hny, hna, hnb]; rw [Bool.eq_iff_iff]; simp; done) | (simp at h; simp [mayB, fitS, hbare, hny, hna, hnb, h]; done) | (simp at h; simp [mayB, fitS, hbare, hny, hna, hnb]; intros; simp_all; done) | skip
set_option maxHeartbeats 4000000 in
theorem ft_MayR8 (x y z o : Str) (n a b : Int) (hx : x.length < LIM) (hy : y.length < LIM) (hz : z.length < LIM) (ho : o.length < LIM) : FT (env K gw) NoW 17 [.agg (Sm.mk 8 x y z o n a b).cs] s (.bool (mayB ⟨8, x, y, z, o, n, a, b⟩)) s := by
  refine FT.pure (fn := Tryd.f17) RC_ok mixed Tryd.func17 (by kernel_rfl) (by rfl) rfl rfl (by simp) rfl fun μ w => ?_
  have hbare : bareS ⟨8, x, y, z, o, n, a, b⟩ = (⟨8, [], [], [], [], 0, a, 0⟩ : Sm) := by simp [bareS]
  cases hna : nodeB a
  all_goals
    repeat' (first
      | refine WP.t ?_ | refine WP.k ?_ | refine WP.e ?_ | refine Qn ?_ | refine Qr ?_ | refine Qe ?_ | refine Bn ?_ | refine Br ?_ | refine Be ?_ | refine Bx (by decide) ?_
      | (refine RS.nl ?_; refine hk _ _ ?_; clear hk k)
      | (refine RS.st fun A B hA hB => ?_; simp [RB, RC, Sm.cs, hx, hy, hz, ho, kS, hbare, hna, onW_t, onW_f, onV_s]; first | (refine hA _ _ _ ?_ ?_; (focus (first | (simp [RB, RC, Sm.cs, hx, hy, hz, ho, kS, hbare, hna]; done) | (simp [RB, RC, Sm.cs, hx, hy, hz, ho, kS, hbare, hna]; omega))); clear hA hB A B) | (refine hB ?_; clear hA hB A B) | (refine onV_if ?_ ?_; (focus (first | omega | (refine ⟨?_, ?_⟩ <;> omega))); simp only [onV_s]; refine hA _ _ _ ?_ ?_; (focus (first | (simp [RB, RC, Sm.cs, hx, hy, hz, ho, kS, hbare, hna]; done) | (simp [RB, RC, Sm.cs, hx, hy, hz, ho, kS, hbare, hna]; omega))); clear hA hB A B))
      | (refine RQ.nl ?_; refine hk _ _ ?_; clear hk k)
      | (refine RQ.st fun A B hA hB => ?_; simp [RB, RC, Sm.cs, hx, hy, hz, ho, kS, hbare, hna, onW_t, onW_f, onV_s]; first | (refine hA _ _ _ ?_ (by first | exact .inl rfl | exact .inr (by decide)) ?_; (focus (first | (simp [RB, RC, Sm.cs, hx, hy, hz, ho, kS, hbare, hna]; done) | (simp [RB, RC, Sm.cs, hx, hy, hz, ho, kS, hbare, hna]; omega))); clear hA hB A B) | (refine hB ?_; clear hA hB A B) | (refine onV_if ?_ ?_; (focus (first | omega | (refine ⟨?_, ?_⟩ <;> omega))); simp only [onV_s]; refine hA _ _ _ ?_ (by first | exact .inl rfl | exact .inr (by decide)) ?_; (focus (first | (simp [RB, RC, Sm.cs, hx, hy, hz, ho, kS, hbare, hna]; done) | (simp [RB, RC, Sm.cs, hx, hy, hz, ho, kS, hbare, hna]; omega))); clear hA hB A B))
      | refine WP.sr fun k hk => ?_ | refine WP.r fun k hk => ?_
      | refine WP.sd _ rfl fun k hk => ?_ | refine WP.d _ rfl fun k hk => ?_
      | (refine WP.cc fun A B hA hB => ?_; simp [RB, RC, Sm.cs, hx, hy, hz, ho, kS, hbare, hna, onB_t, onB_f]; first | (refine hA ?_; clear hA hB A B) | (refine hB ?_; clear hA hB A B) | (refine onB_if (fun h => hA ?_) (fun h => hB ?_) <;> clear hA hB A B))
      | refine WP.q ?_ | refine WP.b ?_)
    all_goals first | (simp [mayB, fitS, hbare, hna]; done) | (simp [mayB, fitS, hbare, hna]; rw [Bool.eq_iff_iff]; simp; done) | (simp at h; simp [mayB, fitS, hbare, hna, h]; done) | (simp at h; simp [mayB, fitS, hbare, hna]; intros; simp_all; done) | skip
set_option maxHeartbeats 4000000 in
theorem ft_MayR9 (x y z o : Str) (n a b : Int) (hx : x.length < LIM) (hy : y.length < LIM) (hz : z.length < LIM) (ho : o.length < LIM) : FT (env K gw) NoW 17 [.agg (Sm.mk 9 x y z o n a b).cs] s (.bool (mayB ⟨9, x, y, z, o, n, a, b⟩)) s := by
  refine FT.pure (fn := Tryd.f17) RC_ok mixed Tryd.func17 (by kernel_rfl) (by rfl) rfl rfl (by simp) rfl fun μ w => ?_
  have hbare : bareS ⟨9, x, y, z, o, n, a, b⟩ = (⟨9, [], [], [], [], 0, 0, 0⟩ : Sm) := by simp [bareS]
  repeat' (first
    | refine WP.t ?_ | refine WP.k ?_ | refine WP.e ?_ | refine Qn ?_ | refine Qr ?_ | refine Qe ?_ | refine Bn ?_ | refine Br ?_ | refine Be ?_ | refine Bx (by decide) ?_
    | (refine RS.nl ?_; refine hk _ _ ?_; clear hk k)
    | (refine RS.st fun A B hA hB => ?_; simp [RB, RC, Sm.cs, hx, hy, hz, ho, kS, hbare, onW_t, onW_f, onV_s]; first | (refine hA _ _ _ ?_ ?_; (focus (first | (simp [RB, RC, Sm.cs, hx, hy, hz, ho, kS, hbare]; done) | (simp [RB, RC, Sm.cs, hx, hy, hz, ho, kS, hbare]; omega))); clear hA hB A B) | (refine hB ?_; clear hA hB A B) | (refine onV_if ?_ ?_; (focus (first | omega | (refine ⟨?_, ?_⟩ <;> omega))); simp only [onV_s]; refine hA _ _ _ ?_ ?_; (focus (first | (simp [RB, RC, Sm.cs, hx, hy, hz, ho, kS, hbare]; done) | (simp [RB, RC, Sm.cs, hx, hy, hz, ho, kS, hbare]; omega))); clear hA hB A B))
    | (refine RQ.nl ?_; refine hk _ _ ?_; clear hk k)
    | (refine RQ.st fun A B hA hB => ?_; simp [RB, RC, Sm.cs, hx, hy, hz, ho, kS, hbare, onW_t, onW_f, onV_s]; first | (refine hA _ _ _ ?_ (by first | exact .inl rfl | exact .inr (by decide)) ?_; (focus (first | (simp [RB, RC, Sm.cs, hx, hy, hz, ho, kS, hbare]; done) | (simp [RB, RC, Sm.cs, hx, hy, hz, ho, kS, hbare]; omega))); clear hA hB A B) | (refine hB ?_; clear hA hB A B) | (refine onV_if ?_ ?_; (focus (first | omega | (refine ⟨?_, ?_⟩ <;> omega))); simp only [onV_s]; refine hA _ _ _ ?_ (by first | exact .inl rfl | exact .inr (by decide)) ?_; (focus (first | (simp [RB, RC, Sm.cs, hx, hy, hz, ho, kS, hbare]; done) | (simp [RB, RC, Sm.cs, hx, hy, hz, ho, kS, hbare]; omega))); clear hA hB A B))
    | refine WP.sr fun k hk => ?_ | refine WP.r fun k hk => ?_
    | refine WP.sd _ rfl fun k hk => ?_ | refine WP.d _ rfl fun k hk => ?_
    | (refine WP.cc fun A B hA hB => ?_; simp [RB, RC, Sm.cs, hx, hy, hz, ho, kS, hbare, onB_t, onB_f]; first | (refine hA ?_; clear hA hB A B) | (refine hB ?_; clear hA hB A B) | (refine onB_if (fun h => hA ?_) (fun h => hB ?_) <;> clear hA hB A B))
    | refine WP.q ?_ | refine WP.b ?_)
  all_goals first | (simp [mayB, fitS, hbare, hx]; done) | (simp [mayB, fitS, hbare, hx]; rw [Bool.eq_iff_iff]; simp; done) | (simp at h; simp [mayB, fitS, hbare, hx, h]; done) | (simp at h; simp [mayB, fitS, hbare, hx]; intros; simp_all; done) | skip
theorem ft_MayR (m : Sm) (hm : okS m = true) : FT (env K gw) NoW 17 [.agg m.cs] s (.bool (mayB m)) s := by
  simp only [okS, Bool.and_eq_true, decide_eq_true_eq] at hm
  obtain ⟨⟨⟨hx, hy⟩, hz⟩, ho⟩ := hm
  obtain ⟨k, x, y, z, o, n, a, b⟩ := m
  simp only at hx hy hz ho
  by_cases h1 : k = 1
  · subst h1; exact ft_MayR1 x y z o n a b hx hy hz ho
  have q1 : (k == 1) = false := by simpa using h1
  by_cases h2 : k = 2
  · subst h2; exact ft_MayR2 x y z o n a b hx hy hz ho
  have q2 : (k == 2) = false := by simpa using h2
  by_cases h3 : k = 3
  · subst h3; exact ft_MayR3 x y z o n a b hx hy hz ho
  have q3 : (k == 3) = false := by simpa using h3
  by_cases h4 : k = 4
  · subst h4; exact ft_MayR4 x y z o n a b hx hy hz ho
  have q4 : (k == 4) = false := by simpa using h4
  by_cases h5 : k = 5
  · subst h5; exact ft_MayR5 x y z o n a b hx hy hz ho
  have q5 : (k == 5) = false := by simpa using h5
  by_cases h6 : k = 6
  · subst h6; exact ft_MayR6 x y z o n a b hx hy hz ho
  have q6 : (k == 6) = false := by simpa using h6
  by_cases h7 : k = 7
  · subst h7; exact ft_MayR7 x y z o n a b hx hy hz ho
  have q7 : (k == 7) = false := by simpa using h7
  by_cases h8 : k = 8
  · subst h8; exact ft_MayR8 x y z o n a b hx hy hz ho
  have q8 : (k == 8) = false := by simpa using h8
  by_cases h9 : k = 9
  · subst h9; exact ft_MayR9 x y z o n a b hx hy hz ho
  have q9 : (k == 9) = false := by simpa using h9
  refine FT.pure (fn := Tryd.f17) RC_ok mixed Tryd.func17 (by kernel_rfl) (by rfl) rfl rfl (by simp) rfl fun μ w => ?_
  have hbare : bareS ⟨k, x, y, z, o, n, a, b⟩ = (⟨k, [], [], [], [], 0, 0, 0⟩ : Sm) := by simp [bareS, h1, h2, h3, h4, h5, h6, h7, h8]
  repeat' (first
    | refine WP.t ?_ | refine WP.k ?_ | refine WP.e ?_ | refine Qn ?_ | refine Qr ?_ | refine Qe ?_ | refine Bn ?_ | refine Br ?_ | refine Be ?_ | refine Bx (by decide) ?_
    | (refine RS.nl ?_; refine hk _ _ ?_; clear hk k)
    | (refine RS.st fun A B hA hB => ?_; simp [RB, RC, Sm.cs, hx, hy, hz, ho, kS, hbare, q1, q2, q3, q4, q5, q6, q7, q8, q9, onW_t, onW_f, onV_s]; first | (refine hA _ _ _ ?_ ?_; (focus (first | (simp [RB, RC, Sm.cs, hx, hy, hz, ho, kS, hbare, q1, q2, q3, q4, q5, q6, q7, q8, q9]; done) | (simp [RB, RC, Sm.cs, hx, hy, hz, ho, kS, hbare, q1, q2, q3, q4, q5, q6, q7, q8, q9]; omega))); clear hA hB A B) | (refine hB ?_; clear hA hB A B) | (refine onV_if ?_ ?_; (focus (first | omega | (refine ⟨?_, ?_⟩ <;> omega))); simp only [onV_s]; refine hA _ _ _ ?_ ?_; (focus (first | (simp [RB, RC, Sm.cs, hx, hy, hz, ho, kS, hbare, q1, q2, q3, q4, q5, q6, q7, q8, q9]; done) | (simp [RB, RC, Sm.cs, hx, hy, hz, ho, kS, hbare, q1, q2, q3, q4, q5, q6, q7, q8, q9]; omega))); clear hA hB A B))
    | (refine RQ.nl ?_; refine hk _ _ ?_; clear hk k)
    | (refine RQ.st fun A B hA hB => ?_; simp [RB, RC, Sm.cs, hx, hy, hz, ho, kS, hbare, q1, q2, q3, q4, q5, q6, q7, q8, q9, onW_t, onW_f, onV_s]; first | (refine hA _ _ _ ?_ (by first | exact .inl rfl | exact .inr (by decide)) ?_; (focus (first | (simp [RB, RC, Sm.cs, hx, hy, hz, ho, kS, hbare, q1, q2, q3, q4, q5, q6, q7, q8, q9]; done) | (simp [RB, RC, Sm.cs, hx, hy, hz, ho, kS, hbare, q1, q2, q3, q4, q5, q6, q7, q8, q9]; omega))); clear hA hB A B) | (refine hB ?_; clear hA hB A B) | (refine onV_if ?_ ?_; (focus (first | omega | (refine ⟨?_, ?_⟩ <;> omega))); simp only [onV_s]; refine hA _ _ _ ?_ (by first | exact .inl rfl | exact .inr (by decide)) ?_; (focus (first | (simp [RB, RC, Sm.cs, hx, hy, hz, ho, kS, hbare, q1, q2, q3, q4, q5, q6, q7, q8, q9]; done) | (simp [RB, RC, Sm.cs, hx, hy, hz, ho, kS, hbare, q1, q2, q3, q4, q5, q6, q7, q8, q9]; omega))); clear hA hB A B))
    | refine WP.sr fun k hk => ?_ | refine WP.r fun k hk => ?_
    | refine WP.sd _ rfl fun k hk => ?_ | refine WP.d _ rfl fun k hk => ?_
    | (refine WP.cc fun A B hA hB => ?_; simp [RB, RC, Sm.cs, hx, hy, hz, ho, kS, hbare, q1, q2, q3, q4, q5, q6, q7, q8, q9, onB_t, onB_f]; first | (refine hA ?_; clear hA hB A B) | (refine hB ?_; clear hA hB A B) | (refine onB_if (fun h => hA ?_) (fun h => hB ?_) <;> clear hA hB A B))
    | refine WP.q ?_ | refine WP.b ?_)
  all_goals simp [mayB, fitS, h1, h2, h3, h4, h5, h6, h7, h8, h9]
end
end Go.Am
