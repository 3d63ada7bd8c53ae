/- Part of the proof: abstract values over the given model of Go (R4, R5, R6, R7). Conditions: none of its own; see the statement in the seat's Rows text. -/
import Derived.Test.YtkfociekgeldnaaDoorAmRa
import Derived.Test.YtkfociekgeldnaaDoorAmUc
set_option linter.unusedSimpArgs false
set_option linter.unusedVariables false
set_option linter.unusedSectionVars false
namespace Go.Am
open Go.Proofs Go.Shelf
section
variable {K : Nat} {gw : World} {s : St}
attribute [local simp] awanted xop zOf zrow aop ev T0 Slots.put Slots.set Slots.get awr WOk AV.may ofConst abinop aint isConst St.get_push St.get_put St.live AV.fit AV.cells AV.one fieldOf afieldAddr aload ofCells astore splice May eqres env_ti FinP FinZ FinW ares aresL ares1 Fns.addP Fns.add Fns.a0 Fns.a1 Fns.a2 Fns.a3 Fns.a4 abuiltin alenOk alen aindex elemOfT elemId abuildSlice afill chunks ard aappend isSS AV.isStr aminmax placesOf abuild afield aidx isStrD isStrDesc astrop aslice asliceOk abound arange anext aextract aunop aeq AV.ck avseq aveq aconv aconvert onB_t onB_f List.range_succ ti0 ti1 ti2 ti3 ti4 ti5 ti6 ti7 ti8 ti9 ti10 ti11 ti12 ti13 ti14 ti15 ti16 ti17 ti18 ti19 ti20 ti21 ti22 ti23 ti24 ti25 ti26 ti27 ti28 ti29 ti30 ti31 ti32 ti33 ti34 ti35 ti36 ti37 ti38 ti39 ti40 ti41 ti42 ti43 ti44 ti45 ti46 ti47 ti48 ti49 ti50 ti51 ti52 ti53 ti54 ti55 ti56 ti57 ti58 ti59 ti60 ti61 ti62 ti63 ti64 ti65 ti66 ti67 ti68 ti69 ti70 ti71 ti72 ti73 ti74 ti75 ti76 ti77 ti78 ti79 ti80 ti81 ti82 ti83 ti84 ti85 ti86 ti87 ti88 ti89 ti90 ti91 ti92 ti93 ti94 ti95 ti96 ti97 ti98 ti99 ti100 ti101
def RD : Fns := RC.a1 17 (vAgg cSm) fun m => if okS m = true then some (.bool (mayB m)) else none
theorem RD_ok : FOk (env K gw) RD := RC_ok.a1 fun m s r h => by split at h <;> cases h; exact ft_MayR m ‹_›
def outR (m : Sm) (i n : Int) : Bool := if m.k = 7 then decide (n ≤ m.a) || decide (n ≤ m.b) else if m.k = 8 then decide (n ≤ m.a) else if m.k = 9 then false else decide (i = n - 1)
theorem ft_out (m : Sm) (i n : Int) (hn : IntKind.i64.wrap (n - 1) = n - 1) : FT (env K gw) NoW 29 [.agg m.cs, .int .i64 i, .int .i64 n] s (.bool (outR m i n)) s := by
  obtain ⟨k, x, y, z, o, c, a, b⟩ := m
  refine FT.pure (fn := Tryd.f29) F0_ok mixed Tryd.func29 (by kernel_rfl) (by rfl) rfl rfl (by simp) rfl fun μ w => ?_
  by_cases h7 : k = 7
  · subst h7
    by_cases ha : n ≤ a
    · skip
      repeat' (first
        | refine WP.t ?_ | refine WP.k ?_ | refine WP.e ?_ | refine Qn ?_ | refine Qr ?_ | refine Qe ?_ | refine Bn ?_ | refine Br ?_ | refine Be ?_ | refine Bx (by decide) ?_
        | (refine RS.nl ?_; refine hk _ _ ?_; clear hk k)
        | (refine RS.st fun A B hA hB => ?_; simp [Sm.cs, ha, onW_t, onW_f, onV_s]; first | (refine hA _ _ _ ?_ ?_; (focus (first | (simp [Sm.cs, ha]; done) | (simp [Sm.cs, ha]; omega))); clear hA hB A B) | (refine hB ?_; clear hA hB A B) | (refine onV_if ?_ ?_; (focus (first | omega | (refine ⟨?_, ?_⟩ <;> omega))); simp only [onV_s]; refine hA _ _ _ ?_ ?_; (focus (first | (simp [Sm.cs, ha]; done) | (simp [Sm.cs, ha]; omega))); clear hA hB A B))
        | (refine RQ.nl ?_; refine hk _ _ ?_; clear hk k)
        | (refine RQ.st fun A B hA hB => ?_; simp [Sm.cs, ha, onW_t, onW_f, onV_s]; first | (refine hA _ _ _ ?_ (by first | exact .inl rfl | exact .inr (by decide)) ?_; (focus (first | (simp [Sm.cs, ha]; done) | (simp [Sm.cs, ha]; omega))); clear hA hB A B) | (refine hB ?_; clear hA hB A B) | (refine onV_if ?_ ?_; (focus (first | omega | (refine ⟨?_, ?_⟩ <;> omega))); simp only [onV_s]; refine hA _ _ _ ?_ (by first | exact .inl rfl | exact .inr (by decide)) ?_; (focus (first | (simp [Sm.cs, ha]; done) | (simp [Sm.cs, ha]; omega))); clear hA hB A B))
        | refine WP.sr fun k hk => ?_ | refine WP.r fun k hk => ?_
        | refine WP.sd _ rfl fun k hk => ?_ | refine WP.d _ rfl fun k hk => ?_
        | (refine WP.cc fun A B hA hB => ?_; simp [Sm.cs, ha, onB_t, onB_f]; first | (refine hA ?_; clear hA hB A B) | (refine hB ?_; clear hA hB A B) | (refine onB_if (fun h => hA ?_) (fun h => hB ?_) <;> clear hA hB A B))
        | refine WP.q ?_ | refine WP.b ?_)
      simp [outR, ha]
    · skip
      repeat' (first
        | refine WP.t ?_ | refine WP.k ?_ | refine WP.e ?_ | refine Qn ?_ | refine Qr ?_ | refine Qe ?_ | refine Bn ?_ | refine Br ?_ | refine Be ?_ | refine Bx (by decide) ?_
        | (refine RS.nl ?_; refine hk _ _ ?_; clear hk k)
        | (refine RS.st fun A B hA hB => ?_; simp [Sm.cs, ha, onW_t, onW_f, onV_s]; first | (refine hA _ _ _ ?_ ?_; (focus (first | (simp [Sm.cs, ha]; done) | (simp [Sm.cs, ha]; omega))); clear hA hB A B) | (refine hB ?_; clear hA hB A B) | (refine onV_if ?_ ?_; (focus (first | omega | (refine ⟨?_, ?_⟩ <;> omega))); simp only [onV_s]; refine hA _ _ _ ?_ ?_; (focus (first | (simp [Sm.cs, ha]; done) | (simp [Sm.cs, ha]; omega))); clear hA hB A B))
        | (refine RQ.nl ?_; refine hk _ _ ?_; clear hk k)
        | (refine RQ.st fun A B hA hB => ?_; simp [Sm.cs, ha, onW_t, onW_f, onV_s]; first | (refine hA _ _ _ ?_ (by first | exact .inl rfl | exact .inr (by decide)) ?_; (focus (first | (simp [Sm.cs, ha]; done) | (simp [Sm.cs, ha]; omega))); clear hA hB A B) | (refine hB ?_; clear hA hB A B) | (refine onV_if ?_ ?_; (focus (first | omega | (refine ⟨?_, ?_⟩ <;> omega))); simp only [onV_s]; refine hA _ _ _ ?_ (by first | exact .inl rfl | exact .inr (by decide)) ?_; (focus (first | (simp [Sm.cs, ha]; done) | (simp [Sm.cs, ha]; omega))); clear hA hB A B))
        | refine WP.sr fun k hk => ?_ | refine WP.r fun k hk => ?_
        | refine WP.sd _ rfl fun k hk => ?_ | refine WP.d _ rfl fun k hk => ?_
        | (refine WP.cc fun A B hA hB => ?_; simp [Sm.cs, ha, onB_t, onB_f]; first | (refine hA ?_; clear hA hB A B) | (refine hB ?_; clear hA hB A B) | (refine onB_if (fun h => hA ?_) (fun h => hB ?_) <;> clear hA hB A B))
        | refine WP.q ?_ | refine WP.b ?_)
      simp [outR, ha]
  have q7 : (k == 7) = false := by simpa using h7
  by_cases h8 : k = 8
  · subst h8
    repeat' (first
      | refine WP.t ?_ | refine WP.k ?_ | refine WP.e ?_ | refine Qn ?_ | refine Qr ?_ | refine Qe ?_ | refine Bn ?_ | refine Br ?_ | refine Be ?_ | refine Bx (by decide) ?_
      | (refine RS.nl ?_; refine hk _ _ ?_; clear hk k)
      | (refine RS.st fun A B hA hB => ?_; simp [Sm.cs, onW_t, onW_f, onV_s]; first | (refine hA _ _ _ ?_ ?_; (focus (first | (simp [Sm.cs]; done) | (simp [Sm.cs]; omega))); clear hA hB A B) | (refine hB ?_; clear hA hB A B) | (refine onV_if ?_ ?_; (focus (first | omega | (refine ⟨?_, ?_⟩ <;> omega))); simp only [onV_s]; refine hA _ _ _ ?_ ?_; (focus (first | (simp [Sm.cs]; done) | (simp [Sm.cs]; omega))); clear hA hB A B))
      | (refine RQ.nl ?_; refine hk _ _ ?_; clear hk k)
      | (refine RQ.st fun A B hA hB => ?_; simp [Sm.cs, onW_t, onW_f, onV_s]; first | (refine hA _ _ _ ?_ (by first | exact .inl rfl | exact .inr (by decide)) ?_; (focus (first | (simp [Sm.cs]; done) | (simp [Sm.cs]; omega))); clear hA hB A B) | (refine hB ?_; clear hA hB A B) | (refine onV_if ?_ ?_; (focus (first | omega | (refine ⟨?_, ?_⟩ <;> omega))); simp only [onV_s]; refine hA _ _ _ ?_ (by first | exact .inl rfl | exact .inr (by decide)) ?_; (focus (first | (simp [Sm.cs]; done) | (simp [Sm.cs]; omega))); clear hA hB A B))
      | refine WP.sr fun k hk => ?_ | refine WP.r fun k hk => ?_
      | refine WP.sd _ rfl fun k hk => ?_ | refine WP.d _ rfl fun k hk => ?_
      | (refine WP.cc fun A B hA hB => ?_; simp [Sm.cs, onB_t, onB_f]; first | (refine hA ?_; clear hA hB A B) | (refine hB ?_; clear hA hB A B) | (refine onB_if (fun h => hA ?_) (fun h => hB ?_) <;> clear hA hB A B))
      | refine WP.q ?_ | refine WP.b ?_)
    simp [outR]
  have q8 : (k == 8) = false := by simpa using h8
  by_cases h9 : k = 9
  · subst h9
    repeat' (first
      | refine WP.t ?_ | refine WP.k ?_ | refine WP.e ?_ | refine Qn ?_ | refine Qr ?_ | refine Qe ?_ | refine Bn ?_ | refine Br ?_ | refine Be ?_ | refine Bx (by decide) ?_
      | (refine RS.nl ?_; refine hk _ _ ?_; clear hk k)
      | (refine RS.st fun A B hA hB => ?_; simp [Sm.cs, onW_t, onW_f, onV_s]; first | (refine hA _ _ _ ?_ ?_; (focus (first | (simp [Sm.cs]; done) | (simp [Sm.cs]; omega))); clear hA hB A B) | (refine hB ?_; clear hA hB A B) | (refine onV_if ?_ ?_; (focus (first | omega | (refine ⟨?_, ?_⟩ <;> omega))); simp only [onV_s]; refine hA _ _ _ ?_ ?_; (focus (first | (simp [Sm.cs]; done) | (simp [Sm.cs]; omega))); clear hA hB A B))
      | (refine RQ.nl ?_; refine hk _ _ ?_; clear hk k)
      | (refine RQ.st fun A B hA hB => ?_; simp [Sm.cs, onW_t, onW_f, onV_s]; first | (refine hA _ _ _ ?_ (by first | exact .inl rfl | exact .inr (by decide)) ?_; (focus (first | (simp [Sm.cs]; done) | (simp [Sm.cs]; omega))); clear hA hB A B) | (refine hB ?_; clear hA hB A B) | (refine onV_if ?_ ?_; (focus (first | omega | (refine ⟨?_, ?_⟩ <;> omega))); simp only [onV_s]; refine hA _ _ _ ?_ (by first | exact .inl rfl | exact .inr (by decide)) ?_; (focus (first | (simp [Sm.cs]; done) | (simp [Sm.cs]; omega))); clear hA hB A B))
      | refine WP.sr fun k hk => ?_ | refine WP.r fun k hk => ?_
      | refine WP.sd _ rfl fun k hk => ?_ | refine WP.d _ rfl fun k hk => ?_
      | (refine WP.cc fun A B hA hB => ?_; simp [Sm.cs, onB_t, onB_f]; first | (refine hA ?_; clear hA hB A B) | (refine hB ?_; clear hA hB A B) | (refine onB_if (fun h => hA ?_) (fun h => hB ?_) <;> clear hA hB A B))
      | refine WP.q ?_ | refine WP.b ?_)
    simp [outR]
  have q9 : (k == 9) = false := by simpa using h9
  repeat' (first
    | refine WP.t ?_ | refine WP.k ?_ | refine WP.e ?_ | refine Qn ?_ | refine Qr ?_ | refine Qe ?_ | refine Bn ?_ | refine Br ?_ | refine Be ?_ | refine Bx (by decide) ?_
    | (refine RS.nl ?_; refine hk _ _ ?_; clear hk k)
    | (refine RS.st fun A B hA hB => ?_; simp [Sm.cs, q7, q8, q9, hn, onW_t, onW_f, onV_s]; first | (refine hA _ _ _ ?_ ?_; (focus (first | (simp [Sm.cs, q7, q8, q9, hn]; done) | (simp [Sm.cs, q7, q8, q9, hn]; omega))); clear hA hB A B) | (refine hB ?_; clear hA hB A B) | (refine onV_if ?_ ?_; (focus (first | omega | (refine ⟨?_, ?_⟩ <;> omega))); simp only [onV_s]; refine hA _ _ _ ?_ ?_; (focus (first | (simp [Sm.cs, q7, q8, q9, hn]; done) | (simp [Sm.cs, q7, q8, q9, hn]; omega))); clear hA hB A B))
    | (refine RQ.nl ?_; refine hk _ _ ?_; clear hk k)
    | (refine RQ.st fun A B hA hB => ?_; simp [Sm.cs, q7, q8, q9, hn, onW_t, onW_f, onV_s]; first | (refine hA _ _ _ ?_ (by first | exact .inl rfl | exact .inr (by decide)) ?_; (focus (first | (simp [Sm.cs, q7, q8, q9, hn]; done) | (simp [Sm.cs, q7, q8, q9, hn]; omega))); clear hA hB A B) | (refine hB ?_; clear hA hB A B) | (refine onV_if ?_ ?_; (focus (first | omega | (refine ⟨?_, ?_⟩ <;> omega))); simp only [onV_s]; refine hA _ _ _ ?_ (by first | exact .inl rfl | exact .inr (by decide)) ?_; (focus (first | (simp [Sm.cs, q7, q8, q9, hn]; done) | (simp [Sm.cs, q7, q8, q9, hn]; omega))); clear hA hB A B))
    | refine WP.sr fun k hk => ?_ | refine WP.r fun k hk => ?_
    | refine WP.sd _ rfl fun k hk => ?_ | refine WP.d _ rfl fun k hk => ?_
    | (refine WP.cc fun A B hA hB => ?_; simp [Sm.cs, q7, q8, q9, hn, onB_t, onB_f]; first | (refine hA ?_; clear hA hB A B) | (refine hB ?_; clear hA hB A B) | (refine onB_if (fun h => hA ?_) (fun h => hB ?_) <;> clear hA hB A B))
    | refine WP.q ?_ | refine WP.b ?_)
  simp [outR, h7, h8, h9]
  try (rw [Bool.eq_iff_iff]; simp)
def chkR (n : Nat) : Nat → List Sm → Int × Int
  | _, [] => (0, 0)
  | i, m :: l => if mayB m then (if outR m i n then ((i : Int), 12) else chkR n (i + 1) l) else ((i : Int), 1)
def RE : Fns := RD.a3 29 (vAgg cSm) (vInt .i64) (vInt .i64) fun m i n => if IntKind.i64.wrap (n - 1) = n - 1 then some (.bool (outR m i n)) else none
theorem RE_ok : FOk (env K gw) RE := RD_ok.a3 fun m i n s r h => by split at h <;> cases h; exact ft_out m i n ‹_›
theorem ft_CheckR (l : List Sm) (hl : l.length < LIM) (hok : ∀ m ∈ l, okS m = true) : FT (env K gw) NoW 15 [.sl (l.map Sm.cs)] s (.tup [.int .i64 (chkR l.length 0 l).1, .int .i64 (chkR l.length 0 l).2]) s := by
  refine FT.pure (fn := Tryd.f15) RE_ok mixed Tryd.func15 (by kernel_rfl) (by rfl) rfl rfl (by simp) rfl fun μ w => ?_
  repeat' (first
    | refine WP.t ?_ | refine WP.k ?_ | refine WP.e ?_ | refine Qn ?_ | refine Qr ?_ | refine Qe ?_ | refine Bn ?_ | refine Br ?_ | refine Be ?_ | refine Bx (by decide) ?_
    | (refine RS.nl ?_; refine hk _ _ ?_; clear hk k)
    | (refine RS.st fun A B hA hB => ?_; simp [onW_t, onW_t, onW_f, onV_s]; first | (refine hA _ _ _ ?_ ?_; (focus (first | (simp [onW_t]; done) | (simp [onW_t]; omega))); clear hA hB A B) | (refine hB ?_; clear hA hB A B) | (refine onV_if ?_ ?_; (focus (first | omega | (refine ⟨?_, ?_⟩ <;> omega))); simp only [onV_s]; refine hA _ _ _ ?_ ?_; (focus (first | (simp [onW_t]; done) | (simp [onW_t]; omega))); clear hA hB A B))
    | (refine RQ.nl ?_; refine hk _ _ ?_; clear hk k)
    | (refine RQ.st fun A B hA hB => ?_; simp [onW_t, onW_t, onW_f, onV_s]; first | (refine hA _ _ _ ?_ (by first | exact .inl rfl | exact .inr (by decide)) ?_; (focus (first | (simp [onW_t]; done) | (simp [onW_t]; omega))); clear hA hB A B) | (refine hB ?_; clear hA hB A B) | (refine onV_if ?_ ?_; (focus (first | omega | (refine ⟨?_, ?_⟩ <;> omega))); simp only [onV_s]; refine hA _ _ _ ?_ (by first | exact .inl rfl | exact .inr (by decide)) ?_; (focus (first | (simp [onW_t]; done) | (simp [onW_t]; omega))); clear hA hB A B))
    | refine WP.sr fun k hk => ?_ | refine WP.r fun k hk => ?_
    | refine WP.sd _ rfl fun k hk => ?_ | refine WP.d _ rfl fun k hk => ?_
    | (refine WP.cc fun A B hA hB => ?_; simp [onW_t, onB_t, onB_f]; first | (refine hA ?_; clear hA hB A B) | (refine hB ?_; clear hA hB A B) | (refine onB_if (fun h => hA ?_) (fun h => hB ?_) <;> clear hA hB A B))
    | refine WP.q ?_ | refine WP.b ?_)
  refine WP_loopS (fun i : Nat => [(0, .sl (l.map Sm.cs)), (4, .int .i64 i)]) (fun i s' => i ≤ l.length ∧ s' = s ∧ chkR l.length 0 l = chkR l.length i (l.drop i)) (fun i => l.length - i) 0 (by simp) ⟨by omega, rfl, rfl⟩ ?_
  rintro i _ ⟨hi, rfl, ht⟩
  by_cases hi2 : i < l.length
  · have hx : l[i]? = some l[i] := List.getElem?_eq_getElem hi2
    have hm := hok l[i] (List.getElem_mem hi2)
    have hw := wrap_succ hi2 hl
    have hw2 : IntKind.i64.wrap ((l.length : Int) - 1) = (l.length : Int) - 1 := wrap64 (by omega) (by simp only [LIM] at hl; omega)
    rw [List.drop_eq_getElem_cons hi2] at ht
    simp only [chkR] at ht
    generalize hv : l[i] = m at *
    have hcs : m.cs = [.int .i64 m.k, .str m.x, .str m.y, .str m.z, .str m.o, .int .i64 m.n, .int .i64 m.a, .int .i64 m.b] := rfl
    have heta : Sm.mk m.k m.x m.y m.z m.o m.n m.a m.b = m := rfl
    cases hmay : mayB m <;> cases ho : outR m i l.length
    all_goals
      simp [hmay, ho] at ht
      repeat' (first
        | refine WP.t ?_ | refine WP.k ?_ | refine WP.e ?_ | refine Qn ?_ | refine Qr ?_ | refine Qe ?_ | refine Bn ?_ | refine Br ?_ | refine Be ?_ | refine Bx (by decide) ?_
        | (refine RS.nl ?_; refine hk _ _ ?_; clear hk k)
        | (refine RS.st fun A B hA hB => ?_; simp [RE, RD, hi2, hx, hv, hm, hw, hw2, hcs, heta, hmay, ho, onW_t, onW_f, onV_s]; first | (refine hA _ _ _ ?_ ?_; (focus (first | (simp [RE, RD, hi2, hx, hv, hm, hw, hw2, hcs, heta, hmay, ho]; done) | (simp [RE, RD, hi2, hx, hv, hm, hw, hw2, hcs, heta, hmay, ho]; omega))); clear hA hB A B) | (refine hB ?_; clear hA hB A B) | (refine onV_if ?_ ?_; (focus (first | omega | (refine ⟨?_, ?_⟩ <;> omega))); simp only [onV_s]; refine hA _ _ _ ?_ ?_; (focus (first | (simp [RE, RD, hi2, hx, hv, hm, hw, hw2, hcs, heta, hmay, ho]; done) | (simp [RE, RD, hi2, hx, hv, hm, hw, hw2, hcs, heta, hmay, ho]; omega))); clear hA hB A B))
        | (refine RQ.nl ?_; refine hk _ _ ?_; clear hk k)
        | (refine RQ.st fun A B hA hB => ?_; simp [RE, RD, hi2, hx, hv, hm, hw, hw2, hcs, heta, hmay, ho, onW_t, onW_f, onV_s]; first | (refine hA _ _ _ ?_ (by first | exact .inl rfl | exact .inr (by decide)) ?_; (focus (first | (simp [RE, RD, hi2, hx, hv, hm, hw, hw2, hcs, heta, hmay, ho]; done) | (simp [RE, RD, hi2, hx, hv, hm, hw, hw2, hcs, heta, hmay, ho]; omega))); clear hA hB A B) | (refine hB ?_; clear hA hB A B) | (refine onV_if ?_ ?_; (focus (first | omega | (refine ⟨?_, ?_⟩ <;> omega))); simp only [onV_s]; refine hA _ _ _ ?_ (by first | exact .inl rfl | exact .inr (by decide)) ?_; (focus (first | (simp [RE, RD, hi2, hx, hv, hm, hw, hw2, hcs, heta, hmay, ho]; done) | (simp [RE, RD, hi2, hx, hv, hm, hw, hw2, hcs, heta, hmay, ho]; omega))); clear hA hB A B))
        | refine WP.sr fun k hk => ?_ | refine WP.r fun k hk => ?_
        | refine WP.sd _ rfl fun k hk => ?_ | refine WP.d _ rfl fun k hk => ?_
        | (refine WP.cc fun A B hA hB => ?_; simp [RE, RD, hi2, hx, hv, hm, hw, hw2, hcs, heta, hmay, ho, onB_t, onB_f]; first | (refine hA ?_; clear hA hB A B) | (refine hB ?_; clear hA hB A B) | (refine onB_if (fun h => hA ?_) (fun h => hB ?_) <;> clear hA hB A B))
        | refine WP.q ?_ | refine WP.b ?_)
      first
        | (simp [ht]; done)
        | exact ⟨i + 1, by omega, by simp, by omega, rfl, ht⟩
  · skip
    repeat' (first
      | refine WP.t ?_ | refine WP.k ?_ | refine WP.e ?_ | refine Qn ?_ | refine Qr ?_ | refine Qe ?_ | refine Bn ?_ | refine Br ?_ | refine Be ?_ | refine Bx (by decide) ?_
      | (refine RS.nl ?_; refine hk _ _ ?_; clear hk k)
      | (refine RS.st fun A B hA hB => ?_; simp [hi2, onW_t, onW_f, onV_s]; first | (refine hA _ _ _ ?_ ?_; (focus (first | (simp [hi2]; done) | (simp [hi2]; omega))); clear hA hB A B) | (refine hB ?_; clear hA hB A B) | (refine onV_if ?_ ?_; (focus (first | omega | (refine ⟨?_, ?_⟩ <;> omega))); simp only [onV_s]; refine hA _ _ _ ?_ ?_; (focus (first | (simp [hi2]; done) | (simp [hi2]; omega))); clear hA hB A B))
      | (refine RQ.nl ?_; refine hk _ _ ?_; clear hk k)
      | (refine RQ.st fun A B hA hB => ?_; simp [hi2, onW_t, onW_f, onV_s]; first | (refine hA _ _ _ ?_ (by first | exact .inl rfl | exact .inr (by decide)) ?_; (focus (first | (simp [hi2]; done) | (simp [hi2]; omega))); clear hA hB A B) | (refine hB ?_; clear hA hB A B) | (refine onV_if ?_ ?_; (focus (first | omega | (refine ⟨?_, ?_⟩ <;> omega))); simp only [onV_s]; refine hA _ _ _ ?_ (by first | exact .inl rfl | exact .inr (by decide)) ?_; (focus (first | (simp [hi2]; done) | (simp [hi2]; omega))); clear hA hB A B))
      | refine WP.sr fun k hk => ?_ | refine WP.r fun k hk => ?_
      | refine WP.sd _ rfl fun k hk => ?_ | refine WP.d _ rfl fun k hk => ?_
      | (refine WP.cc fun A B hA hB => ?_; simp [hi2, onB_t, onB_f]; first | (refine hA ?_; clear hA hB A B) | (refine hB ?_; clear hA hB A B) | (refine onB_if (fun h => hA ?_) (fun h => hB ?_) <;> clear hA hB A B))
      | refine WP.q ?_ | refine WP.b ?_)
    rw [List.drop_of_length_le (by omega)] at ht
    simp [ht, chkR]
theorem ft_at (l : List Str) (i : Nat) (hl : l.length < LIM) : FT (env K gw) NoW 49 [.sl (l.map sc), .int .i64 i] s (.str (l.getD i [])) s := by
  refine FT.pure (fn := Tryd.f49) F0_ok mixed Tryd.func49 (by kernel_rfl) (by rfl) rfl rfl (by simp) rfl fun μ w => ?_
  by_cases hi : i < l.length
  · have hx : l[i]? = some l[i] := List.getElem?_eq_getElem hi
    repeat' (first
      | refine WP.t ?_ | refine WP.k ?_ | refine WP.e ?_ | refine Qn ?_ | refine Qr ?_ | refine Qe ?_ | refine Bn ?_ | refine Br ?_ | refine Be ?_ | refine Bx (by decide) ?_
      | (refine RS.nl ?_; refine hk _ _ ?_; clear hk k)
      | (refine RS.st fun A B hA hB => ?_; simp [hi, hx, sc, onW_t, onW_f, onV_s]; first | (refine hA _ _ _ ?_ ?_; (focus (first | (simp [hi, hx, sc]; done) | (simp [hi, hx, sc]; omega))); clear hA hB A B) | (refine hB ?_; clear hA hB A B) | (refine onV_if ?_ ?_; (focus (first | omega | (refine ⟨?_, ?_⟩ <;> omega))); simp only [onV_s]; refine hA _ _ _ ?_ ?_; (focus (first | (simp [hi, hx, sc]; done) | (simp [hi, hx, sc]; omega))); clear hA hB A B))
      | (refine RQ.nl ?_; refine hk _ _ ?_; clear hk k)
      | (refine RQ.st fun A B hA hB => ?_; simp [hi, hx, sc, onW_t, onW_f, onV_s]; first | (refine hA _ _ _ ?_ (by first | exact .inl rfl | exact .inr (by decide)) ?_; (focus (first | (simp [hi, hx, sc]; done) | (simp [hi, hx, sc]; omega))); clear hA hB A B) | (refine hB ?_; clear hA hB A B) | (refine onV_if ?_ ?_; (focus (first | omega | (refine ⟨?_, ?_⟩ <;> omega))); simp only [onV_s]; refine hA _ _ _ ?_ (by first | exact .inl rfl | exact .inr (by decide)) ?_; (focus (first | (simp [hi, hx, sc]; done) | (simp [hi, hx, sc]; omega))); clear hA hB A B))
      | refine WP.sr fun k hk => ?_ | refine WP.r fun k hk => ?_
      | refine WP.sd _ rfl fun k hk => ?_ | refine WP.d _ rfl fun k hk => ?_
      | (refine WP.cc fun A B hA hB => ?_; simp [hi, hx, sc, onB_t, onB_f]; first | (refine hA ?_; clear hA hB A B) | (refine hB ?_; clear hA hB A B) | (refine onB_if (fun h => hA ?_) (fun h => hB ?_) <;> clear hA hB A B))
      | refine WP.q ?_ | refine WP.b ?_)
    simp [List.getD_eq_getElem?_getD, hx]
  · have hx : l[i]? = none := List.getElem?_eq_none (by omega)
    repeat' (first
      | refine WP.t ?_ | refine WP.k ?_ | refine WP.e ?_ | refine Qn ?_ | refine Qr ?_ | refine Qe ?_ | refine Bn ?_ | refine Br ?_ | refine Be ?_ | refine Bx (by decide) ?_
      | (refine RS.nl ?_; refine hk _ _ ?_; clear hk k)
      | (refine RS.st fun A B hA hB => ?_; simp [hi, hx, sc, onW_t, onW_f, onV_s]; first | (refine hA _ _ _ ?_ ?_; (focus (first | (simp [hi, hx, sc]; done) | (simp [hi, hx, sc]; omega))); clear hA hB A B) | (refine hB ?_; clear hA hB A B) | (refine onV_if ?_ ?_; (focus (first | omega | (refine ⟨?_, ?_⟩ <;> omega))); simp only [onV_s]; refine hA _ _ _ ?_ ?_; (focus (first | (simp [hi, hx, sc]; done) | (simp [hi, hx, sc]; omega))); clear hA hB A B))
      | (refine RQ.nl ?_; refine hk _ _ ?_; clear hk k)
      | (refine RQ.st fun A B hA hB => ?_; simp [hi, hx, sc, onW_t, onW_f, onV_s]; first | (refine hA _ _ _ ?_ (by first | exact .inl rfl | exact .inr (by decide)) ?_; (focus (first | (simp [hi, hx, sc]; done) | (simp [hi, hx, sc]; omega))); clear hA hB A B) | (refine hB ?_; clear hA hB A B) | (refine onV_if ?_ ?_; (focus (first | omega | (refine ⟨?_, ?_⟩ <;> omega))); simp only [onV_s]; refine hA _ _ _ ?_ (by first | exact .inl rfl | exact .inr (by decide)) ?_; (focus (first | (simp [hi, hx, sc]; done) | (simp [hi, hx, sc]; omega))); clear hA hB A B))
      | refine WP.sr fun k hk => ?_ | refine WP.r fun k hk => ?_
      | refine WP.sd _ rfl fun k hk => ?_ | refine WP.d _ rfl fun k hk => ?_
      | (refine WP.cc fun A B hA hB => ?_; simp [hi, hx, sc, onB_t, onB_f]; first | (refine hA ?_; clear hA hB A B) | (refine hB ?_; clear hA hB A B) | (refine onB_if (fun h => hA ?_) (fun h => hB ?_) <;> clear hA hB A B))
      | refine WP.q ?_ | refine WP.b ?_)
    simp [List.getD_eq_getElem?_getD, hx]
open Classical in
theorem ft_SameR (x y : List Sm) (hx : x.length < LIM) (hy : y.length < LIM) : FT (env K gw) NoW 13 [.sl (x.map Sm.cs), .sl (y.map Sm.cs)] s (.bool (decide (x = y))) s := by
  refine FT.pure (fn := Tryd.f13) F0_ok mixed Tryd.func13 (by kernel_rfl) (by rfl) rfl rfl (by simp) rfl fun μ w => ?_
  by_cases hl : x.length = y.length
  · skip
    repeat' (first
      | refine WP.t ?_ | refine WP.k ?_ | refine WP.e ?_ | refine Qn ?_ | refine Qr ?_ | refine Qe ?_ | refine Bn ?_ | refine Br ?_ | refine Be ?_ | refine Bx (by decide) ?_
      | (refine RS.nl ?_; refine hk _ _ ?_; clear hk k)
      | (refine RS.st fun A B hA hB => ?_; simp [hl, onW_t, onW_f, onV_s]; first | (refine hA _ _ _ ?_ ?_; (focus (first | (simp [hl]; done) | (simp [hl]; omega))); clear hA hB A B) | (refine hB ?_; clear hA hB A B) | (refine onV_if ?_ ?_; (focus (first | omega | (refine ⟨?_, ?_⟩ <;> omega))); simp only [onV_s]; refine hA _ _ _ ?_ ?_; (focus (first | (simp [hl]; done) | (simp [hl]; omega))); clear hA hB A B))
      | (refine RQ.nl ?_; refine hk _ _ ?_; clear hk k)
      | (refine RQ.st fun A B hA hB => ?_; simp [hl, onW_t, onW_f, onV_s]; first | (refine hA _ _ _ ?_ (by first | exact .inl rfl | exact .inr (by decide)) ?_; (focus (first | (simp [hl]; done) | (simp [hl]; omega))); clear hA hB A B) | (refine hB ?_; clear hA hB A B) | (refine onV_if ?_ ?_; (focus (first | omega | (refine ⟨?_, ?_⟩ <;> omega))); simp only [onV_s]; refine hA _ _ _ ?_ (by first | exact .inl rfl | exact .inr (by decide)) ?_; (focus (first | (simp [hl]; done) | (simp [hl]; omega))); clear hA hB A B))
      | refine WP.sr fun k hk => ?_ | refine WP.r fun k hk => ?_
      | refine WP.sd _ rfl fun k hk => ?_ | refine WP.d _ rfl fun k hk => ?_
      | (refine WP.cc fun A B hA hB => ?_; simp [hl, onB_t, onB_f]; first | (refine hA ?_; clear hA hB A B) | (refine hB ?_; clear hA hB A B) | (refine onB_if (fun h => hA ?_) (fun h => hB ?_) <;> clear hA hB A B))
      | refine WP.q ?_ | refine WP.b ?_)
    refine WP_loopS (fun i : Nat => [(0, .sl (x.map Sm.cs)), (1, .sl (y.map Sm.cs)), (5, .int .i64 i)]) (fun i s' => i ≤ x.length ∧ s' = s ∧ x.take i = y.take i) (fun i => x.length - i) 0 (by simp) ⟨by omega, rfl, rfl⟩ ?_
    rintro i _ ⟨hi, rfl, ht⟩
    by_cases hi2 : i < x.length
    · have hi3 : i < y.length := by omega
      have ha : x[i]? = some x[i] := List.getElem?_eq_getElem hi2
      have hb : y[i]? = some y[i] := List.getElem?_eq_getElem hi3
      have t1 : x.take (i + 1) = x.take i ++ [x[i]] := List.take_succ_eq_append_getElem hi2
      have t2 : y.take (i + 1) = y.take i ++ [y[i]] := List.take_succ_eq_append_getElem hi3
      have hw := wrap_succ hi2 hx
      have hne2 : ¬ x[i] = y[i] → ¬ x = y := fun h e => h (by simp only [e])
      generalize hv : x[i] = p at *
      generalize hu : y[i] = q at *
      have hcp : p.cs = [.int .i64 p.k, .str p.x, .str p.y, .str p.z, .str p.o, .int .i64 p.n, .int .i64 p.a, .int .i64 p.b] := rfl
      have hcq : q.cs = [.int .i64 q.k, .str q.x, .str q.y, .str q.z, .str q.o, .int .i64 q.n, .int .i64 q.a, .int .i64 q.b] := rfl
      repeat' (first
        | refine WP.t ?_ | refine WP.k ?_ | refine WP.e ?_ | refine Qn ?_ | refine Qr ?_ | refine Qe ?_ | refine Bn ?_ | refine Br ?_ | refine Be ?_ | refine Bx (by decide) ?_
        | (refine RS.nl ?_; refine hk _ _ ?_; clear hk k)
        | (refine RS.st fun A B hA hB => ?_; simp [hl, hi2, hi3, ha, hb, hv, hu, hcp, hcq, kS, hw, onW_t, onW_f, onV_s]; first | (refine hA _ _ _ ?_ ?_; (focus (first | (simp [hl, hi2, hi3, ha, hb, hv, hu, hcp, hcq, kS, hw]; done) | (simp [hl, hi2, hi3, ha, hb, hv, hu, hcp, hcq, kS, hw]; omega))); clear hA hB A B) | (refine hB ?_; clear hA hB A B) | (refine onV_if ?_ ?_; (focus (first | omega | (refine ⟨?_, ?_⟩ <;> omega))); simp only [onV_s]; refine hA _ _ _ ?_ ?_; (focus (first | (simp [hl, hi2, hi3, ha, hb, hv, hu, hcp, hcq, kS, hw]; done) | (simp [hl, hi2, hi3, ha, hb, hv, hu, hcp, hcq, kS, hw]; omega))); clear hA hB A B))
        | (refine RQ.nl ?_; refine hk _ _ ?_; clear hk k)
        | (refine RQ.st fun A B hA hB => ?_; simp [hl, hi2, hi3, ha, hb, hv, hu, hcp, hcq, kS, hw, onW_t, onW_f, onV_s]; first | (refine hA _ _ _ ?_ (by first | exact .inl rfl | exact .inr (by decide)) ?_; (focus (first | (simp [hl, hi2, hi3, ha, hb, hv, hu, hcp, hcq, kS, hw]; done) | (simp [hl, hi2, hi3, ha, hb, hv, hu, hcp, hcq, kS, hw]; omega))); clear hA hB A B) | (refine hB ?_; clear hA hB A B) | (refine onV_if ?_ ?_; (focus (first | omega | (refine ⟨?_, ?_⟩ <;> omega))); simp only [onV_s]; refine hA _ _ _ ?_ (by first | exact .inl rfl | exact .inr (by decide)) ?_; (focus (first | (simp [hl, hi2, hi3, ha, hb, hv, hu, hcp, hcq, kS, hw]; done) | (simp [hl, hi2, hi3, ha, hb, hv, hu, hcp, hcq, kS, hw]; omega))); clear hA hB A B))
        | refine WP.sr fun k hk => ?_ | refine WP.r fun k hk => ?_
        | refine WP.sd _ rfl fun k hk => ?_ | refine WP.d _ rfl fun k hk => ?_
        | (refine WP.cc fun A B hA hB => ?_; simp [hl, hi2, hi3, ha, hb, hv, hu, hcp, hcq, kS, hw, onB_t, onB_f]; first | (refine hA ?_; clear hA hB A B) | (refine hB ?_; clear hA hB A B) | (refine onB_if (fun h => hA ?_) (fun h => hB ?_) <;> clear hA hB A B))
        | refine WP.q ?_ | refine WP.b ?_)
      · have : ¬ p = q := fun e => by subst e; simp at h
        simp [hne2 this]
      · have : p = q := by
          simp at h
          ext1 <;> simp [h]
        exact ⟨i + 1, by omega, by simp, by omega, rfl, by rw [t1, t2, ht, this]⟩
    · have hi3 : ¬ i < y.length := by omega
      have e1 : x.take i = x := List.take_of_length_le (by omega)
      have e2 : y.take i = y := List.take_of_length_le (by omega)
      rw [e1, e2] at ht
      repeat' (first
        | refine WP.t ?_ | refine WP.k ?_ | refine WP.e ?_ | refine Qn ?_ | refine Qr ?_ | refine Qe ?_ | refine Bn ?_ | refine Br ?_ | refine Be ?_ | refine Bx (by decide) ?_
        | (refine RS.nl ?_; refine hk _ _ ?_; clear hk k)
        | (refine RS.st fun A B hA hB => ?_; simp [hi2, hi3, onW_t, onW_f, onV_s]; first | (refine hA _ _ _ ?_ ?_; (focus (first | (simp [hi2, hi3]; done) | (simp [hi2, hi3]; omega))); clear hA hB A B) | (refine hB ?_; clear hA hB A B) | (refine onV_if ?_ ?_; (focus (first | omega | (refine ⟨?_, ?_⟩ <;> omega))); simp only [onV_s]; refine hA _ _ _ ?_ ?_; (focus (first | (simp [hi2, hi3]; done) | (simp [hi2, hi3]; omega))); clear hA hB A B))
        | (refine RQ.nl ?_; refine hk _ _ ?_; clear hk k)
        | (refine RQ.st fun A B hA hB => ?_; simp [hi2, hi3, onW_t, onW_f, onV_s]; first | (refine hA _ _ _ ?_ (by first | exact .inl rfl | exact .inr (by decide)) ?_; (focus (first | (simp [hi2, hi3]; done) | (simp [hi2, hi3]; omega))); clear hA hB A B) | (refine hB ?_; clear hA hB A B) | (refine onV_if ?_ ?_; (focus (first | omega | (refine ⟨?_, ?_⟩ <;> omega))); simp only [onV_s]; refine hA _ _ _ ?_ (by first | exact .inl rfl | exact .inr (by decide)) ?_; (focus (first | (simp [hi2, hi3]; done) | (simp [hi2, hi3]; omega))); clear hA hB A B))
        | refine WP.sr fun k hk => ?_ | refine WP.r fun k hk => ?_
        | refine WP.sd _ rfl fun k hk => ?_ | refine WP.d _ rfl fun k hk => ?_
        | (refine WP.cc fun A B hA hB => ?_; simp [hi2, hi3, onB_t, onB_f]; first | (refine hA ?_; clear hA hB A B) | (refine hB ?_; clear hA hB A B) | (refine onB_if (fun h => hA ?_) (fun h => hB ?_) <;> clear hA hB A B))
        | refine WP.q ?_ | refine WP.b ?_)
      simp [ht]
  · have hne : ¬ x = y := by rintro rfl; exact hl rfl
    have hb : ((x.length : Int) != (y.length : Int)) = true := by rw [bne_iff_ne]; omega
    repeat' (first
      | refine WP.t ?_ | refine WP.k ?_ | refine WP.e ?_ | refine Qn ?_ | refine Qr ?_ | refine Qe ?_ | refine Bn ?_ | refine Br ?_ | refine Be ?_ | refine Bx (by decide) ?_
      | (refine RS.nl ?_; refine hk _ _ ?_; clear hk k)
      | (refine RS.st fun A B hA hB => ?_; simp [hl, hb, onW_t, onW_f, onV_s]; first | (refine hA _ _ _ ?_ ?_; (focus (first | (simp [hl, hb]; done) | (simp [hl, hb]; omega))); clear hA hB A B) | (refine hB ?_; clear hA hB A B) | (refine onV_if ?_ ?_; (focus (first | omega | (refine ⟨?_, ?_⟩ <;> omega))); simp only [onV_s]; refine hA _ _ _ ?_ ?_; (focus (first | (simp [hl, hb]; done) | (simp [hl, hb]; omega))); clear hA hB A B))
      | (refine RQ.nl ?_; refine hk _ _ ?_; clear hk k)
      | (refine RQ.st fun A B hA hB => ?_; simp [hl, hb, onW_t, onW_f, onV_s]; first | (refine hA _ _ _ ?_ (by first | exact .inl rfl | exact .inr (by decide)) ?_; (focus (first | (simp [hl, hb]; done) | (simp [hl, hb]; omega))); clear hA hB A B) | (refine hB ?_; clear hA hB A B) | (refine onV_if ?_ ?_; (focus (first | omega | (refine ⟨?_, ?_⟩ <;> omega))); simp only [onV_s]; refine hA _ _ _ ?_ (by first | exact .inl rfl | exact .inr (by decide)) ?_; (focus (first | (simp [hl, hb]; done) | (simp [hl, hb]; omega))); clear hA hB A B))
      | refine WP.sr fun k hk => ?_ | refine WP.r fun k hk => ?_
      | refine WP.sd _ rfl fun k hk => ?_ | refine WP.d _ rfl fun k hk => ?_
      | (refine WP.cc fun A B hA hB => ?_; simp [hl, hb, onB_t, onB_f]; first | (refine hA ?_; clear hA hB A B) | (refine hB ?_; clear hA hB A B) | (refine onB_if (fun h => hA ?_) (fun h => hB ?_) <;> clear hA hB A B))
      | refine WP.q ?_ | refine WP.b ?_)
    simp [hne]
end
end Go.Am
namespace Go.Am
open Go.Proofs Go.Shelf
/-- A piece more: a byte behind. -/
theorem splitC_snoc (c : UInt8) : ∀ (y : Str) (b : UInt8) (D : List Str) (u : Str), splitC c 0 y = D ++ [u] → splitC c 0 (y ++ [b]) = if b == c then D ++ [u] ++ [[]] else D ++ [u ++ [b]]
  | [], b, D, u, h => by
    simp only [splitC] at h
    have hD : D = [] := by
      cases D with
      | nil => rfl
      | cons d D => simp at h
    subst hD
    simp at h
    subst h
    simp only [List.nil_append, splitC]
    split <;> simp
  | e :: y, b, D, u, h => by
    by_cases he : e = c
    · subst he
      simp only [List.cons_append, splitC, beq_self_eq_true, if_true, List.take_zero] at h ⊢
      cases D with
      | nil =>
        simp at h
        obtain ⟨p, q, e2⟩ := splitC_ne e 0 y
        rw [h.2] at e2; cases e2
      | cons d D =>
        simp only [List.cons_append, List.cons.injEq] at h
        obtain ⟨rfl, h⟩ := h
        rw [splitC_snoc e y b D u h]
        split <;> simp
    · simp only [List.cons_append, splitC] at h ⊢
      have hb : (e == c) = false := by simpa using he
      simp only [hb, Bool.false_eq_true, if_false] at h ⊢
      obtain ⟨p, q, e2⟩ := splitC_ne c 0 y
      rw [e2] at h
      simp only at h
      cases D with
      | nil =>
        simp only [List.nil_append, List.cons.injEq] at h
        obtain ⟨rfl, rfl⟩ := h
        rw [splitC_snoc c y b [] p (by rw [e2]; rfl)]
        cases hbc : (b == c) <;> simp
      | cons d D =>
        simp only [List.cons_append, List.cons.injEq] at h
        obtain ⟨rfl, rfl⟩ := h
        rw [splitC_snoc c y b (p :: D) u (by rw [e2]; rfl)]
        cases hbc : (b == c) <;> simp
section
variable {K : Nat} {gw : World} {s : St}
attribute [local simp] awanted xop zOf zrow aop ev T0 Slots.put Slots.set Slots.get awr WOk AV.may ofConst abinop aint isConst St.get_push St.get_put St.live AV.fit AV.cells AV.one fieldOf afieldAddr aload ofCells astore splice May eqres env_ti FinP FinZ FinW ares aresL ares1 Fns.addP Fns.add Fns.a0 Fns.a1 Fns.a2 Fns.a3 Fns.a4 abuiltin alenOk alen aindex elemOfT elemId abuildSlice afill chunks ard aappend isSS AV.isStr aminmax placesOf abuild afield aidx isStrD isStrDesc astrop aslice asliceOk abound arange anext aextract aunop aeq AV.ck avseq aveq aconv aconvert onB_t onB_f List.range_succ ti0 ti1 ti2 ti3 ti4 ti5 ti6 ti7 ti8 ti9 ti10 ti11 ti12 ti13 ti14 ti15 ti16 ti17 ti18 ti19 ti20 ti21 ti22 ti23 ti24 ti25 ti26 ti27 ti28 ti29 ti30 ti31 ti32 ti33 ti34 ti35 ti36 ti37 ti38 ti39 ti40 ti41 ti42 ti43 ti44 ti45 ti46 ti47 ti48 ti49 ti50 ti51 ti52 ti53 ti54 ti55 ti56 ti57 ti58 ti59 ti60 ti61 ti62 ti63 ti64 ti65 ti66 ti67 ti68 ti69 ti70 ti71 ti72 ti73 ti74 ti75 ti76 ti77 ti78 ti79 ti80 ti81 ti82 ti83 ti84 ti85 ti86 ti87 ti88 ti89 ti90 ti91 ti92 ti93 ti94 ti95 ti96 ti97 ti98 ti99 ti100 ti101
theorem ft_wordsR (x : Str) (hl : x.length ≤ 100000) : FT (env K gw) NoW 48 [.str x] s (.sl ((splitC 32 0 x).map sc)) s := by
  refine FT.data (fn := Tryd.f48) F0_ok mixed Tryd.func48 (by kernel_rfl) (by rfl) rfl rfl (by simp) rfl fun μ w => ?_
  repeat' (first
    | (refine WP.nr 3 1 9 ?_ ?_; (focus (simp; done)))
    | refine WP.t ?_ | refine WP.k ?_ | refine WP.e ?_ | refine Qn ?_ | refine Qr ?_ | refine Qe ?_ | refine Bn ?_ | refine Br ?_ | refine Be ?_ | refine Bx (by decide) ?_
    | (refine RS.nl ?_; refine hk _ _ ?_; clear hk k)
    | (refine RS.st fun A B hA hB => ?_; simp [onW_t, onW_t, onW_f, onV_s]; first | (refine hA _ _ _ ?_ ?_; (focus (first | (simp [onW_t]; done) | (simp [onW_t]; omega))); clear hA hB A B) | (refine hB ?_; clear hA hB A B) | (refine onV_if ?_ ?_; (focus (first | omega | (refine ⟨?_, ?_⟩ <;> omega))); simp only [onV_s]; refine hA _ _ _ ?_ ?_; (focus (first | (simp [onW_t]; done) | (simp [onW_t]; omega))); clear hA hB A B))
    | (refine RQ.nl ?_; refine hk _ _ ?_; clear hk k)
    | (refine RQ.st fun A B hA hB => ?_; simp [onW_t, onW_t, onW_f, onV_s]; first | (refine hA _ _ _ ?_ (by first | exact .inl rfl | exact .inr (by decide)) ?_; (focus (first | (simp [onW_t]; done) | (simp [onW_t]; omega))); clear hA hB A B) | (refine hB ?_; clear hA hB A B) | (refine onV_if ?_ ?_; (focus (first | omega | (refine ⟨?_, ?_⟩ <;> omega))); simp only [onV_s]; refine hA _ _ _ ?_ (by first | exact .inl rfl | exact .inr (by decide)) ?_; (focus (first | (simp [onW_t]; done) | (simp [onW_t]; omega))); clear hA hB A B))
    | refine WP.sr fun k hk => ?_ | refine WP.r fun k hk => ?_
    | refine WP.sd _ rfl fun k hk => ?_ | refine WP.d _ rfl fun k hk => ?_
    | (refine WP.cc fun A B hA hB => ?_; simp [onW_t, onB_t, onB_f]; first | (refine hA ?_; clear hA hB A B) | (refine hB ?_; clear hA hB A B) | (refine onB_if (fun h => hA ?_) (fun h => hB ?_) <;> clear hA hB A B))
    | refine WP.q ?_ | refine WP.b ?_)
  refine WP_loopS (fun a : Nat × List Str × Nat × Nat => [(0, .str x), (3, .ls a.2.2.2 0 a.2.1.length), (4, .int .i64 a.2.2.1), (5, .int .i64 a.1)])
    (fun a s' => s.nx ≤ a.2.2.2 ∧ a.2.2.2 < s'.nx ∧ a.2.1.length ≤ x.length + 1 ∧ s'.get a.2.2.2 = some (.row 1 (true, 9) (a.2.1.map sc)) ∧
      ((a.1 ≤ x.length ∧ a.2.2.1 ≤ a.1 ∧ a.2.1.length ≤ a.1 ∧ splitC 32 0 (x.take a.1) = a.2.1 ++ [(x.take a.1).drop a.2.2.1]) ∨ (a.1 = x.length + 1 ∧ a.2.1 = splitC 32 0 x)))
    (fun a => x.length + 1 - a.1) (0, [], 0, s.nx) (by simp) ⟨by simp, by simp, by simp, by simp, .inl ⟨by simp, by simp, by simp, by simp [splitC]⟩⟩ ?_
  rintro ⟨i, D, fr, rd⟩ s' ⟨hrd, hrd2, hDl, hr, hc⟩
  simp only at hrd hrd2 hDl hr hc
  have e1 : ¬ rd = s'.nx := by omega
  have e3 : ¬ s'.nx = rd := by omega
  have w1 : s.nx ≤ s'.nx := by omega
  have hby : (D.length + 1) * 16 ≤ 140737488355328 := by omega
  rcases hc with ⟨hi, hfr, hDi, hsp⟩ | ⟨rfl, rfl⟩
  · have hle : (i : Int) ≤ (x.length : Int) := by omega
    have hw : IntKind.i64.wrap ((i : Int) + 1) = (i : Int) + 1 := wrap64 (by omega) (by omega)
    have hcut : List.take (i - fr) (List.drop fr x) = (x.take i).drop fr := by rw [List.drop_take]
    have hfi : (fr : Int) ≤ (i : Int) := by omega
    generalize hu : (x.take i).drop fr = u at *
    by_cases hend : i = x.length
    · have q : ((i : Int) == (x.length : Int)) = true := by simp; omega
      have hfull : x.take i = x := List.take_of_length_le (by omega)
      rw [hfull] at hsp
      repeat' (first
        | refine WP.t ?_ | refine WP.k ?_ | refine WP.e ?_ | refine Qn ?_ | refine Qr ?_ | refine Qe ?_ | refine Bn ?_ | refine Br ?_ | refine Be ?_ | refine Bx (by decide) ?_
        | (refine RS.nl ?_; refine hk _ _ ?_; clear hk k)
        | (refine RS.st fun A B hA hB => ?_; simp [hle, q, hw, hcut, hfi, hr, e1, e3, w1, hby, hrd, hi, hfr, onW_t, onW_f, onV_s]; first | (refine hA _ _ _ ?_ ?_; (focus (first | (simp [hle, q, hw, hcut, hfi, hr, e1, e3, w1, hby, hrd, hi, hfr]; done) | (simp [hle, q, hw, hcut, hfi, hr, e1, e3, w1, hby, hrd, hi, hfr]; omega))); clear hA hB A B) | (refine hB ?_; clear hA hB A B) | (refine onV_if ?_ ?_; (focus (first | omega | (refine ⟨?_, ?_⟩ <;> omega))); simp only [onV_s]; refine hA _ _ _ ?_ ?_; (focus (first | (simp [hle, q, hw, hcut, hfi, hr, e1, e3, w1, hby, hrd, hi, hfr]; done) | (simp [hle, q, hw, hcut, hfi, hr, e1, e3, w1, hby, hrd, hi, hfr]; omega))); clear hA hB A B))
        | (refine RQ.nl ?_; refine hk _ _ ?_; clear hk k)
        | (refine RQ.st fun A B hA hB => ?_; simp [hle, q, hw, hcut, hfi, hr, e1, e3, w1, hby, hrd, hi, hfr, onW_t, onW_f, onV_s]; first | (refine hA _ _ _ ?_ (by first | exact .inl rfl | exact .inr (by decide)) ?_; (focus (first | (simp [hle, q, hw, hcut, hfi, hr, e1, e3, w1, hby, hrd, hi, hfr]; done) | (simp [hle, q, hw, hcut, hfi, hr, e1, e3, w1, hby, hrd, hi, hfr]; omega))); clear hA hB A B) | (refine hB ?_; clear hA hB A B) | (refine onV_if ?_ ?_; (focus (first | omega | (refine ⟨?_, ?_⟩ <;> omega))); simp only [onV_s]; refine hA _ _ _ ?_ (by first | exact .inl rfl | exact .inr (by decide)) ?_; (focus (first | (simp [hle, q, hw, hcut, hfi, hr, e1, e3, w1, hby, hrd, hi, hfr]; done) | (simp [hle, q, hw, hcut, hfi, hr, e1, e3, w1, hby, hrd, hi, hfr]; omega))); clear hA hB A B))
        | refine WP.sr fun k hk => ?_ | refine WP.r fun k hk => ?_
        | refine WP.sd _ rfl fun k hk => ?_ | refine WP.d _ rfl fun k hk => ?_
        | (refine WP.cc fun A B hA hB => ?_; simp [hle, q, hw, hcut, hfi, hr, e1, e3, w1, hby, hrd, hi, hfr, onB_t, onB_f]; first | (refine hA ?_; clear hA hB A B) | (refine hB ?_; clear hA hB A B) | (refine onB_if (fun h => hA ?_) (fun h => hB ?_) <;> clear hA hB A B))
        | refine WP.q ?_ | refine WP.b ?_)
      refine ⟨(i + 1, D ++ [u], i + 1, s'.nx + 1), by simp; omega, by simp, by simp; omega, by simp, by simp; omega, ?_, .inr ⟨by simp [hend], by simp [hsp]⟩⟩
      simp [sc]
    · have q : ((i : Int) == (x.length : Int)) = false := by simp; omega
      have hi2 : i < x.length := by omega
      have htk : x.take (i + 1) = x.take i ++ [x[i]] := List.take_succ_eq_append_getElem hi2
      have hsn := splitC_snoc 32 (x.take i) x[i] D u hsp
      rw [← htk] at hsn
      have hdrop : (x.take (i + 1)).drop fr = u ++ [x[i]] := by rw [htk, List.drop_append_of_le_length (by rw [List.length_take]; omega), hu]
      have h32 : ∀ c : UInt8, ((c.toNat : Int) == 32) = (c == 32) := fun c => by
        rw [Bool.eq_iff_iff, beq_iff_eq, beq_iff_eq]
        constructor
        · intro h; exact UInt8.toNat_inj.1 (by have : (32 : UInt8).toNat = 32 := rfl; omega)
        · rintro rfl; rfl
      generalize hv : x[i] = c at *
      cases hcc : (c == 32)
      · skip
        repeat' (first
          | refine WP.t ?_ | refine WP.k ?_ | refine WP.e ?_ | refine Qn ?_ | refine Qr ?_ | refine Qe ?_ | refine Bn ?_ | refine Br ?_ | refine Be ?_ | refine Bx (by decide) ?_
          | (refine RS.nl ?_; refine hk _ _ ?_; clear hk k)
          | (refine RS.st fun A B hA hB => ?_; simp [hle, q, hw, hcut, hfi, hr, e1, e3, w1, hby, hrd, hi, hi2, hfr, hv, h32, hcc, onW_t, onW_f, onV_s]; first | (refine hA _ _ _ ?_ ?_; (focus (first | (simp [hle, q, hw, hcut, hfi, hr, e1, e3, w1, hby, hrd, hi, hi2, hfr, hv, h32, hcc]; done) | (simp [hle, q, hw, hcut, hfi, hr, e1, e3, w1, hby, hrd, hi, hi2, hfr, hv, h32, hcc]; omega))); clear hA hB A B) | (refine hB ?_; clear hA hB A B) | (refine onV_if ?_ ?_; (focus (first | omega | (refine ⟨?_, ?_⟩ <;> omega))); simp only [onV_s]; refine hA _ _ _ ?_ ?_; (focus (first | (simp [hle, q, hw, hcut, hfi, hr, e1, e3, w1, hby, hrd, hi, hi2, hfr, hv, h32, hcc]; done) | (simp [hle, q, hw, hcut, hfi, hr, e1, e3, w1, hby, hrd, hi, hi2, hfr, hv, h32, hcc]; omega))); clear hA hB A B))
          | (refine RQ.nl ?_; refine hk _ _ ?_; clear hk k)
          | (refine RQ.st fun A B hA hB => ?_; simp [hle, q, hw, hcut, hfi, hr, e1, e3, w1, hby, hrd, hi, hi2, hfr, hv, h32, hcc, onW_t, onW_f, onV_s]; first | (refine hA _ _ _ ?_ (by first | exact .inl rfl | exact .inr (by decide)) ?_; (focus (first | (simp [hle, q, hw, hcut, hfi, hr, e1, e3, w1, hby, hrd, hi, hi2, hfr, hv, h32, hcc]; done) | (simp [hle, q, hw, hcut, hfi, hr, e1, e3, w1, hby, hrd, hi, hi2, hfr, hv, h32, hcc]; omega))); clear hA hB A B) | (refine hB ?_; clear hA hB A B) | (refine onV_if ?_ ?_; (focus (first | omega | (refine ⟨?_, ?_⟩ <;> omega))); simp only [onV_s]; refine hA _ _ _ ?_ (by first | exact .inl rfl | exact .inr (by decide)) ?_; (focus (first | (simp [hle, q, hw, hcut, hfi, hr, e1, e3, w1, hby, hrd, hi, hi2, hfr, hv, h32, hcc]; done) | (simp [hle, q, hw, hcut, hfi, hr, e1, e3, w1, hby, hrd, hi, hi2, hfr, hv, h32, hcc]; omega))); clear hA hB A B))
          | refine WP.sr fun k hk => ?_ | refine WP.r fun k hk => ?_
          | refine WP.sd _ rfl fun k hk => ?_ | refine WP.d _ rfl fun k hk => ?_
          | (refine WP.cc fun A B hA hB => ?_; simp [hle, q, hw, hcut, hfi, hr, e1, e3, w1, hby, hrd, hi, hi2, hfr, hv, h32, hcc, onB_t, onB_f]; first | (refine hA ?_; clear hA hB A B) | (refine hB ?_; clear hA hB A B) | (refine onB_if (fun h => hA ?_) (fun h => hB ?_) <;> clear hA hB A B))
          | refine WP.q ?_ | refine WP.b ?_)
        refine ⟨(i + 1, D, fr, rd), by simp; omega, by simp, by simp; omega, by simp; omega, by simp; omega, ?_, .inl ⟨by simp; omega, by simp; omega, by simp; omega, ?_⟩⟩
        · simpa using hr
        · simp only [hsn, hcc, hdrop, Bool.false_eq_true, if_false]
      · skip
        repeat' (first
          | refine WP.t ?_ | refine WP.k ?_ | refine WP.e ?_ | refine Qn ?_ | refine Qr ?_ | refine Qe ?_ | refine Bn ?_ | refine Br ?_ | refine Be ?_ | refine Bx (by decide) ?_
          | (refine RS.nl ?_; refine hk _ _ ?_; clear hk k)
          | (refine RS.st fun A B hA hB => ?_; simp [hle, q, hw, hcut, hfi, hr, e1, e3, w1, hby, hrd, hi, hi2, hfr, hv, h32, hcc, onW_t, onW_f, onV_s]; first | (refine hA _ _ _ ?_ ?_; (focus (first | (simp [hle, q, hw, hcut, hfi, hr, e1, e3, w1, hby, hrd, hi, hi2, hfr, hv, h32, hcc]; done) | (simp [hle, q, hw, hcut, hfi, hr, e1, e3, w1, hby, hrd, hi, hi2, hfr, hv, h32, hcc]; omega))); clear hA hB A B) | (refine hB ?_; clear hA hB A B) | (refine onV_if ?_ ?_; (focus (first | omega | (refine ⟨?_, ?_⟩ <;> omega))); simp only [onV_s]; refine hA _ _ _ ?_ ?_; (focus (first | (simp [hle, q, hw, hcut, hfi, hr, e1, e3, w1, hby, hrd, hi, hi2, hfr, hv, h32, hcc]; done) | (simp [hle, q, hw, hcut, hfi, hr, e1, e3, w1, hby, hrd, hi, hi2, hfr, hv, h32, hcc]; omega))); clear hA hB A B))
          | (refine RQ.nl ?_; refine hk _ _ ?_; clear hk k)
          | (refine RQ.st fun A B hA hB => ?_; simp [hle, q, hw, hcut, hfi, hr, e1, e3, w1, hby, hrd, hi, hi2, hfr, hv, h32, hcc, onW_t, onW_f, onV_s]; first | (refine hA _ _ _ ?_ (by first | exact .inl rfl | exact .inr (by decide)) ?_; (focus (first | (simp [hle, q, hw, hcut, hfi, hr, e1, e3, w1, hby, hrd, hi, hi2, hfr, hv, h32, hcc]; done) | (simp [hle, q, hw, hcut, hfi, hr, e1, e3, w1, hby, hrd, hi, hi2, hfr, hv, h32, hcc]; omega))); clear hA hB A B) | (refine hB ?_; clear hA hB A B) | (refine onV_if ?_ ?_; (focus (first | omega | (refine ⟨?_, ?_⟩ <;> omega))); simp only [onV_s]; refine hA _ _ _ ?_ (by first | exact .inl rfl | exact .inr (by decide)) ?_; (focus (first | (simp [hle, q, hw, hcut, hfi, hr, e1, e3, w1, hby, hrd, hi, hi2, hfr, hv, h32, hcc]; done) | (simp [hle, q, hw, hcut, hfi, hr, e1, e3, w1, hby, hrd, hi, hi2, hfr, hv, h32, hcc]; omega))); clear hA hB A B))
          | refine WP.sr fun k hk => ?_ | refine WP.r fun k hk => ?_
          | refine WP.sd _ rfl fun k hk => ?_ | refine WP.d _ rfl fun k hk => ?_
          | (refine WP.cc fun A B hA hB => ?_; simp [hle, q, hw, hcut, hfi, hr, e1, e3, w1, hby, hrd, hi, hi2, hfr, hv, h32, hcc, onB_t, onB_f]; first | (refine hA ?_; clear hA hB A B) | (refine hB ?_; clear hA hB A B) | (refine onB_if (fun h => hA ?_) (fun h => hB ?_) <;> clear hA hB A B))
          | refine WP.q ?_ | refine WP.b ?_)
        refine ⟨(i + 1, D ++ [u], i + 1, s'.nx + 1), by simp; omega, by simp, by simp; omega, by simp, by simp; omega, ?_, .inl ⟨by simp; omega, by simp, by simp; omega, ?_⟩⟩
        · simp [sc]
        · have : (x.take (i + 1)).drop (i + 1) = [] := List.drop_of_length_le (by rw [List.length_take]; omega)
          simp only [hsn, hcc, this, if_true]
  · have hle : ¬ ((x.length : Int) + 1 ≤ (x.length : Int)) := by omega
    repeat' (first
      | refine WP.t ?_ | refine WP.k ?_ | refine WP.e ?_ | refine Qn ?_ | refine Qr ?_ | refine Qe ?_ | refine Bn ?_ | refine Br ?_ | refine Be ?_ | refine Bx (by decide) ?_
      | (refine RS.nl ?_; refine hk _ _ ?_; clear hk k)
      | (refine RS.st fun A B hA hB => ?_; simp [hle, onW_t, onW_f, onV_s]; first | (refine hA _ _ _ ?_ ?_; (focus (first | (simp [hle]; done) | (simp [hle]; omega))); clear hA hB A B) | (refine hB ?_; clear hA hB A B) | (refine onV_if ?_ ?_; (focus (first | omega | (refine ⟨?_, ?_⟩ <;> omega))); simp only [onV_s]; refine hA _ _ _ ?_ ?_; (focus (first | (simp [hle]; done) | (simp [hle]; omega))); clear hA hB A B))
      | (refine RQ.nl ?_; refine hk _ _ ?_; clear hk k)
      | (refine RQ.st fun A B hA hB => ?_; simp [hle, onW_t, onW_f, onV_s]; first | (refine hA _ _ _ ?_ (by first | exact .inl rfl | exact .inr (by decide)) ?_; (focus (first | (simp [hle]; done) | (simp [hle]; omega))); clear hA hB A B) | (refine hB ?_; clear hA hB A B) | (refine onV_if ?_ ?_; (focus (first | omega | (refine ⟨?_, ?_⟩ <;> omega))); simp only [onV_s]; refine hA _ _ _ ?_ (by first | exact .inl rfl | exact .inr (by decide)) ?_; (focus (first | (simp [hle]; done) | (simp [hle]; omega))); clear hA hB A B))
      | refine WP.sr fun k hk => ?_ | refine WP.r fun k hk => ?_
      | refine WP.sd _ rfl fun k hk => ?_ | refine WP.d _ rfl fun k hk => ?_
      | (refine WP.cc fun A B hA hB => ?_; simp [hle, onB_t, onB_f]; first | (refine hA ?_; clear hA hB A B) | (refine hB ?_; clear hA hB A B) | (refine onB_if (fun h => hA ?_) (fun h => hB ?_) <;> clear hA hB A B))
      | refine WP.q ?_ | refine WP.b ?_)
    refine ⟨.inr rfl, .ls rd 0 (splitC 32 0 x).length, by simp, ?_⟩
    exact frz_sl cStr hr hrd rfl
/-- Figures, byte by byte. -/
def numF (acc : Int) (c : UInt8) : Int := if 48 ≤ c.toNat ∧ c.toNat ≤ 57 then IntKind.i64.wrap (IntKind.i64.wrap (10 * acc) - ((c.toNat : Int) - 48)) else acc
def numA (x : Str) : Int := if x.length ≤ 20 then x.foldl numF 0 else 0
def numR (x : Str) : Int := if x.head? = some 45 then numA x else IntKind.i64.wrap (0 - numA x)
theorem ft_numberR (x : Str) (hl : x.length < LIM) : FT (env K gw) NoW 50 [.str x] s (.int .i64 (numR x)) s := by
  refine FT.pure (fn := Tryd.f50) F0_ok mixed Tryd.func50 (by kernel_rfl) (by rfl) rfl rfl (by simp) rfl fun μ w => ?_
  by_cases h20 : x.length ≤ 20
  · have h20' : (x.length : Int) ≤ 20 := by omega
    repeat' (first
      | refine WP.t ?_ | refine WP.k ?_ | refine WP.e ?_ | refine Qn ?_ | refine Qr ?_ | refine Qe ?_ | refine Bn ?_ | refine Br ?_ | refine Be ?_ | refine Bx (by decide) ?_
      | (refine RS.nl ?_; refine hk _ _ ?_; clear hk k)
      | (refine RS.st fun A B hA hB => ?_; simp [onW_t, onW_t, onW_f, onV_s]; first | (refine hA _ _ _ ?_ ?_; (focus (first | (simp [onW_t]; done) | (simp [onW_t]; omega))); clear hA hB A B) | (refine hB ?_; clear hA hB A B) | (refine onV_if ?_ ?_; (focus (first | omega | (refine ⟨?_, ?_⟩ <;> omega))); simp only [onV_s]; refine hA _ _ _ ?_ ?_; (focus (first | (simp [onW_t]; done) | (simp [onW_t]; omega))); clear hA hB A B))
      | (refine RQ.nl ?_; refine hk _ _ ?_; clear hk k)
      | (refine RQ.st fun A B hA hB => ?_; simp [onW_t, onW_t, onW_f, onV_s]; first | (refine hA _ _ _ ?_ (by first | exact .inl rfl | exact .inr (by decide)) ?_; (focus (first | (simp [onW_t]; done) | (simp [onW_t]; omega))); clear hA hB A B) | (refine hB ?_; clear hA hB A B) | (refine onV_if ?_ ?_; (focus (first | omega | (refine ⟨?_, ?_⟩ <;> omega))); simp only [onV_s]; refine hA _ _ _ ?_ (by first | exact .inl rfl | exact .inr (by decide)) ?_; (focus (first | (simp [onW_t]; done) | (simp [onW_t]; omega))); clear hA hB A B))
      | refine WP.sr fun k hk => ?_ | refine WP.r fun k hk => ?_
      | refine WP.sd _ rfl fun k hk => ?_ | refine WP.d _ rfl fun k hk => ?_
      | (refine WP.cc fun A B hA hB => ?_; simp [onW_t, onB_t, onB_f]; first | (refine hA ?_; clear hA hB A B) | (refine hB ?_; clear hA hB A B) | (refine onB_if (fun h => hA ?_) (fun h => hB ?_) <;> clear hA hB A B))
      | refine WP.q ?_ | refine WP.b ?_)
    refine WP_loopS (fun i : Nat => [(0, .str x), (3, .int .i64 ((x.take i).foldl numF 0)), (4, .int .i64 i)]) (fun i s' => i ≤ x.length ∧ s' = s) (fun i => x.length - i) 0 (by simp) ⟨by omega, rfl⟩ ?_
    rintro i _ ⟨hi, rfl⟩
    by_cases hi2 : i < x.length
    · have htk : x.take (i + 1) = x.take i ++ [x[i]] := List.take_succ_eq_append_getElem hi2
      have hw := wrap_succ hi2 hl
      generalize hv : x[i] = c at *
      have hlt := c.toNat_lt
      have hf : (x.take (i + 1)).foldl numF 0 = numF ((x.take i).foldl numF 0) c := by rw [htk, List.foldl_append]; rfl
      generalize (x.take i).foldl numF 0 = acc at *
      by_cases f1 : 48 ≤ c.toNat <;> by_cases f2 : c.toNat ≤ 57
      all_goals
        have f1' : (48 ≤ (c.toNat : Int)) ↔ (48 ≤ c.toNat) := by omega
        have f2' : ((c.toNat : Int) ≤ 57) ↔ (c.toNat ≤ 57) := by omega
        have f3 : 48 ≤ c.toNat → IntKind.u8.wrap ((c.toNat : Int) - 48) = (c.toNat : Int) - 48 := fun h => by
          have : ∀ v : Int, IntKind.u8.wrap v = v % 256 := fun _ => rfl
          rw [this]; omega
        have f4 : 48 ≤ c.toNat → IntKind.i64.wrap ((c.toNat : Int) - 48) = (c.toNat : Int) - 48 := fun h => wrap64 (by omega) (by omega)
        repeat' (first
          | refine WP.t ?_ | refine WP.k ?_ | refine WP.e ?_ | refine Qn ?_ | refine Qr ?_ | refine Qe ?_ | refine Bn ?_ | refine Br ?_ | refine Be ?_ | refine Bx (by decide) ?_
          | (refine RS.nl ?_; refine hk _ _ ?_; clear hk k)
          | (refine RS.st fun A B hA hB => ?_; simp [h20', h20, hi2, hv, hw, f1', f2', f1, f2, f3, f4, onW_t, onW_f, onV_s]; first | (refine hA _ _ _ ?_ ?_; (focus (first | (simp [h20', h20, hi2, hv, hw, f1', f2', f1, f2, f3, f4]; done) | (simp [h20', h20, hi2, hv, hw, f1', f2', f1, f2, f3, f4]; omega))); clear hA hB A B) | (refine hB ?_; clear hA hB A B) | (refine onV_if ?_ ?_; (focus (first | omega | (refine ⟨?_, ?_⟩ <;> omega))); simp only [onV_s]; refine hA _ _ _ ?_ ?_; (focus (first | (simp [h20', h20, hi2, hv, hw, f1', f2', f1, f2, f3, f4]; done) | (simp [h20', h20, hi2, hv, hw, f1', f2', f1, f2, f3, f4]; omega))); clear hA hB A B))
          | (refine RQ.nl ?_; refine hk _ _ ?_; clear hk k)
          | (refine RQ.st fun A B hA hB => ?_; simp [h20', h20, hi2, hv, hw, f1', f2', f1, f2, f3, f4, onW_t, onW_f, onV_s]; first | (refine hA _ _ _ ?_ (by first | exact .inl rfl | exact .inr (by decide)) ?_; (focus (first | (simp [h20', h20, hi2, hv, hw, f1', f2', f1, f2, f3, f4]; done) | (simp [h20', h20, hi2, hv, hw, f1', f2', f1, f2, f3, f4]; omega))); clear hA hB A B) | (refine hB ?_; clear hA hB A B) | (refine onV_if ?_ ?_; (focus (first | omega | (refine ⟨?_, ?_⟩ <;> omega))); simp only [onV_s]; refine hA _ _ _ ?_ (by first | exact .inl rfl | exact .inr (by decide)) ?_; (focus (first | (simp [h20', h20, hi2, hv, hw, f1', f2', f1, f2, f3, f4]; done) | (simp [h20', h20, hi2, hv, hw, f1', f2', f1, f2, f3, f4]; omega))); clear hA hB A B))
          | refine WP.sr fun k hk => ?_ | refine WP.r fun k hk => ?_
          | refine WP.sd _ rfl fun k hk => ?_ | refine WP.d _ rfl fun k hk => ?_
          | (refine WP.cc fun A B hA hB => ?_; simp [h20', h20, hi2, hv, hw, f1', f2', f1, f2, f3, f4, onB_t, onB_f]; first | (refine hA ?_; clear hA hB A B) | (refine hB ?_; clear hA hB A B) | (refine onB_if (fun h => hA ?_) (fun h => hB ?_) <;> clear hA hB A B))
          | refine WP.q ?_ | refine WP.b ?_)
        exact ⟨i + 1, by omega, by simp [hf, numF, f1, f2], by omega, rfl⟩
    · have he : x.take i = x := List.take_of_length_le (by omega)
      rw [he]
      match x, hl, h20, hi2 with
      | [], _, _, _ =>
        repeat' (first
          | refine WP.t ?_ | refine WP.k ?_ | refine WP.e ?_ | refine Qn ?_ | refine Qr ?_ | refine Qe ?_ | refine Bn ?_ | refine Br ?_ | refine Be ?_ | refine Bx (by decide) ?_
          | (refine RS.nl ?_; refine hk _ _ ?_; clear hk k)
          | (refine RS.st fun A B hA hB => ?_; simp [h20', h20, hi2, onW_t, onW_f, onV_s]; first | (refine hA _ _ _ ?_ ?_; (focus (first | (simp [h20', h20, hi2]; done) | (simp [h20', h20, hi2]; omega))); clear hA hB A B) | (refine hB ?_; clear hA hB A B) | (refine onV_if ?_ ?_; (focus (first | omega | (refine ⟨?_, ?_⟩ <;> omega))); simp only [onV_s]; refine hA _ _ _ ?_ ?_; (focus (first | (simp [h20', h20, hi2]; done) | (simp [h20', h20, hi2]; omega))); clear hA hB A B))
          | (refine RQ.nl ?_; refine hk _ _ ?_; clear hk k)
          | (refine RQ.st fun A B hA hB => ?_; simp [h20', h20, hi2, onW_t, onW_f, onV_s]; first | (refine hA _ _ _ ?_ (by first | exact .inl rfl | exact .inr (by decide)) ?_; (focus (first | (simp [h20', h20, hi2]; done) | (simp [h20', h20, hi2]; omega))); clear hA hB A B) | (refine hB ?_; clear hA hB A B) | (refine onV_if ?_ ?_; (focus (first | omega | (refine ⟨?_, ?_⟩ <;> omega))); simp only [onV_s]; refine hA _ _ _ ?_ (by first | exact .inl rfl | exact .inr (by decide)) ?_; (focus (first | (simp [h20', h20, hi2]; done) | (simp [h20', h20, hi2]; omega))); clear hA hB A B))
          | refine WP.sr fun k hk => ?_ | refine WP.r fun k hk => ?_
          | refine WP.sd _ rfl fun k hk => ?_ | refine WP.d _ rfl fun k hk => ?_
          | (refine WP.cc fun A B hA hB => ?_; simp [h20', h20, hi2, onB_t, onB_f]; first | (refine hA ?_; clear hA hB A B) | (refine hB ?_; clear hA hB A B) | (refine onB_if (fun h => hA ?_) (fun h => hB ?_) <;> clear hA hB A B))
          | refine WP.q ?_ | refine WP.b ?_)
        simp [numR, numA]
      | c :: x, hl, h20, hi2 =>
        have h45 : ((c.toNat : Int) == 45) = (c == 45) := by
          rw [Bool.eq_iff_iff, beq_iff_eq, beq_iff_eq]
          constructor
          · intro h; exact UInt8.toNat_inj.1 (by have : (45 : UInt8).toNat = 45 := rfl; omega)
          · rintro rfl; rfl
        have hlen : (0 : Int) < ((c :: x).length : Int) := by simp only [List.length_cons]; omega
        have hA : numA (c :: x) = (c :: x).foldl numF 0 := by simp only [numA, if_pos h20]
        generalize (c :: x).foldl numF 0 = acc at *
        generalize hX : c :: x = X at *
        have hX0 : X[0]? = some c := by rw [← hX]; rfl
        have hX1 : 0 < X.length := by rw [← hX]; simp
        have hX2 : X[0]'hX1 = c := by subst hX; rfl
        have hX3 : X.head? = some c := by rw [← hX]; rfl
        cases hc : (c == 45)
        · skip
          repeat' (first
            | refine WP.t ?_ | refine WP.k ?_ | refine WP.e ?_ | refine Qn ?_ | refine Qr ?_ | refine Qe ?_ | refine Bn ?_ | refine Br ?_ | refine Be ?_ | refine Bx (by decide) ?_
            | (refine RS.nl ?_; refine hk _ _ ?_; clear hk k)
            | (refine RS.st fun A B hA hB => ?_; simp [h20', h20, hi2, h45, hc, hlen, hX0, hX1, hX2, onW_t, onW_f, onV_s]; first | (refine hA _ _ _ ?_ ?_; (focus (first | (simp [h20', h20, hi2, h45, hc, hlen, hX0, hX1, hX2]; done) | (simp [h20', h20, hi2, h45, hc, hlen, hX0, hX1, hX2]; omega))); clear hA hB A B) | (refine hB ?_; clear hA hB A B) | (refine onV_if ?_ ?_; (focus (first | omega | (refine ⟨?_, ?_⟩ <;> omega))); simp only [onV_s]; refine hA _ _ _ ?_ ?_; (focus (first | (simp [h20', h20, hi2, h45, hc, hlen, hX0, hX1, hX2]; done) | (simp [h20', h20, hi2, h45, hc, hlen, hX0, hX1, hX2]; omega))); clear hA hB A B))
            | (refine RQ.nl ?_; refine hk _ _ ?_; clear hk k)
            | (refine RQ.st fun A B hA hB => ?_; simp [h20', h20, hi2, h45, hc, hlen, hX0, hX1, hX2, onW_t, onW_f, onV_s]; first | (refine hA _ _ _ ?_ (by first | exact .inl rfl | exact .inr (by decide)) ?_; (focus (first | (simp [h20', h20, hi2, h45, hc, hlen, hX0, hX1, hX2]; done) | (simp [h20', h20, hi2, h45, hc, hlen, hX0, hX1, hX2]; omega))); clear hA hB A B) | (refine hB ?_; clear hA hB A B) | (refine onV_if ?_ ?_; (focus (first | omega | (refine ⟨?_, ?_⟩ <;> omega))); simp only [onV_s]; refine hA _ _ _ ?_ (by first | exact .inl rfl | exact .inr (by decide)) ?_; (focus (first | (simp [h20', h20, hi2, h45, hc, hlen, hX0, hX1, hX2]; done) | (simp [h20', h20, hi2, h45, hc, hlen, hX0, hX1, hX2]; omega))); clear hA hB A B))
            | refine WP.sr fun k hk => ?_ | refine WP.r fun k hk => ?_
            | refine WP.sd _ rfl fun k hk => ?_ | refine WP.d _ rfl fun k hk => ?_
            | (refine WP.cc fun A B hA hB => ?_; simp [h20', h20, hi2, h45, hc, hlen, hX0, hX1, hX2, onB_t, onB_f]; first | (refine hA ?_; clear hA hB A B) | (refine hB ?_; clear hA hB A B) | (refine onB_if (fun h => hA ?_) (fun h => hB ?_) <;> clear hA hB A B))
            | refine WP.q ?_ | refine WP.b ?_)
          simp [numR, hA, hX3]
          intro h; simp [h] at hc
        · skip
          repeat' (first
            | refine WP.t ?_ | refine WP.k ?_ | refine WP.e ?_ | refine Qn ?_ | refine Qr ?_ | refine Qe ?_ | refine Bn ?_ | refine Br ?_ | refine Be ?_ | refine Bx (by decide) ?_
            | (refine RS.nl ?_; refine hk _ _ ?_; clear hk k)
            | (refine RS.st fun A B hA hB => ?_; simp [h20', h20, hi2, h45, hc, hlen, hX0, hX1, hX2, onW_t, onW_f, onV_s]; first | (refine hA _ _ _ ?_ ?_; (focus (first | (simp [h20', h20, hi2, h45, hc, hlen, hX0, hX1, hX2]; done) | (simp [h20', h20, hi2, h45, hc, hlen, hX0, hX1, hX2]; omega))); clear hA hB A B) | (refine hB ?_; clear hA hB A B) | (refine onV_if ?_ ?_; (focus (first | omega | (refine ⟨?_, ?_⟩ <;> omega))); simp only [onV_s]; refine hA _ _ _ ?_ ?_; (focus (first | (simp [h20', h20, hi2, h45, hc, hlen, hX0, hX1, hX2]; done) | (simp [h20', h20, hi2, h45, hc, hlen, hX0, hX1, hX2]; omega))); clear hA hB A B))
            | (refine RQ.nl ?_; refine hk _ _ ?_; clear hk k)
            | (refine RQ.st fun A B hA hB => ?_; simp [h20', h20, hi2, h45, hc, hlen, hX0, hX1, hX2, onW_t, onW_f, onV_s]; first | (refine hA _ _ _ ?_ (by first | exact .inl rfl | exact .inr (by decide)) ?_; (focus (first | (simp [h20', h20, hi2, h45, hc, hlen, hX0, hX1, hX2]; done) | (simp [h20', h20, hi2, h45, hc, hlen, hX0, hX1, hX2]; omega))); clear hA hB A B) | (refine hB ?_; clear hA hB A B) | (refine onV_if ?_ ?_; (focus (first | omega | (refine ⟨?_, ?_⟩ <;> omega))); simp only [onV_s]; refine hA _ _ _ ?_ (by first | exact .inl rfl | exact .inr (by decide)) ?_; (focus (first | (simp [h20', h20, hi2, h45, hc, hlen, hX0, hX1, hX2]; done) | (simp [h20', h20, hi2, h45, hc, hlen, hX0, hX1, hX2]; omega))); clear hA hB A B))
            | refine WP.sr fun k hk => ?_ | refine WP.r fun k hk => ?_
            | refine WP.sd _ rfl fun k hk => ?_ | refine WP.d _ rfl fun k hk => ?_
            | (refine WP.cc fun A B hA hB => ?_; simp [h20', h20, hi2, h45, hc, hlen, hX0, hX1, hX2, onB_t, onB_f]; first | (refine hA ?_; clear hA hB A B) | (refine hB ?_; clear hA hB A B) | (refine onB_if (fun h => hA ?_) (fun h => hB ?_) <;> clear hA hB A B))
            | refine WP.q ?_ | refine WP.b ?_)
          simp [numR, hA, hX3]
          intro h; exact absurd (by simpa using hc) h
  · have h20' : ¬ (x.length : Int) ≤ 20 := by omega
    have hx0 : 0 < x.length := by omega
    repeat' (first
      | refine WP.t ?_ | refine WP.k ?_ | refine WP.e ?_ | refine Qn ?_ | refine Qr ?_ | refine Qe ?_ | refine Bn ?_ | refine Br ?_ | refine Be ?_ | refine Bx (by decide) ?_
      | (refine RS.nl ?_; refine hk _ _ ?_; clear hk k)
      | (refine RS.st fun A B hA hB => ?_; simp [onW_t, onW_t, onW_f, onV_s]; first | (refine hA _ _ _ ?_ ?_; (focus (first | (simp [onW_t]; done) | (simp [onW_t]; omega))); clear hA hB A B) | (refine hB ?_; clear hA hB A B) | (refine onV_if ?_ ?_; (focus (first | omega | (refine ⟨?_, ?_⟩ <;> omega))); simp only [onV_s]; refine hA _ _ _ ?_ ?_; (focus (first | (simp [onW_t]; done) | (simp [onW_t]; omega))); clear hA hB A B))
      | (refine RQ.nl ?_; refine hk _ _ ?_; clear hk k)
      | (refine RQ.st fun A B hA hB => ?_; simp [onW_t, onW_t, onW_f, onV_s]; first | (refine hA _ _ _ ?_ (by first | exact .inl rfl | exact .inr (by decide)) ?_; (focus (first | (simp [onW_t]; done) | (simp [onW_t]; omega))); clear hA hB A B) | (refine hB ?_; clear hA hB A B) | (refine onV_if ?_ ?_; (focus (first | omega | (refine ⟨?_, ?_⟩ <;> omega))); simp only [onV_s]; refine hA _ _ _ ?_ (by first | exact .inl rfl | exact .inr (by decide)) ?_; (focus (first | (simp [onW_t]; done) | (simp [onW_t]; omega))); clear hA hB A B))
      | refine WP.sr fun k hk => ?_ | refine WP.r fun k hk => ?_
      | refine WP.sd _ rfl fun k hk => ?_ | refine WP.d _ rfl fun k hk => ?_
      | (refine WP.cc fun A B hA hB => ?_; simp [onW_t, onB_t, onB_f]; first | (refine hA ?_; clear hA hB A B) | (refine hB ?_; clear hA hB A B) | (refine onB_if (fun h => hA ?_) (fun h => hB ?_) <;> clear hA hB A B))
      | refine WP.q ?_ | refine WP.b ?_)
    refine WP_loopS (fun i : Nat => [(0, .str x), (3, .int .i64 0), (4, .int .i64 0)]) (fun i s' => s' = s) (fun i => i) 0 (by simp) rfl ?_
    rintro i _ rfl
    have hA : numA x = 0 := by simp only [numA, if_neg h20]
    have w0 : IntKind.i64.wrap 0 = 0 := wrap64 (by omega) (by omega)
    have hlen : (0 : Int) < (x.length : Int) := by omega
    generalize hv : x[0]'hx0 = c at *
    have h45 : ((c.toNat : Int) == 45) = (c == 45) := by
      rw [Bool.eq_iff_iff, beq_iff_eq, beq_iff_eq]
      constructor
      · intro h; exact UInt8.toNat_inj.1 (by have : (45 : UInt8).toNat = 45 := rfl; omega)
      · rintro rfl; rfl
    have hr : numR x = 0 := by simp [numR, hA, w0]
    cases hc : (c == 45)
    · skip
      repeat' (first
        | refine WP.t ?_ | refine WP.k ?_ | refine WP.e ?_ | refine Qn ?_ | refine Qr ?_ | refine Qe ?_ | refine Bn ?_ | refine Br ?_ | refine Be ?_ | refine Bx (by decide) ?_
        | (refine RS.nl ?_; refine hk _ _ ?_; clear hk k)
        | (refine RS.st fun A B hA hB => ?_; simp [h20', h20, hx0, hlen, hv, h45, hc, onW_t, onW_f, onV_s]; first | (refine hA _ _ _ ?_ ?_; (focus (first | (simp [h20', h20, hx0, hlen, hv, h45, hc]; done) | (simp [h20', h20, hx0, hlen, hv, h45, hc]; omega))); clear hA hB A B) | (refine hB ?_; clear hA hB A B) | (refine onV_if ?_ ?_; (focus (first | omega | (refine ⟨?_, ?_⟩ <;> omega))); simp only [onV_s]; refine hA _ _ _ ?_ ?_; (focus (first | (simp [h20', h20, hx0, hlen, hv, h45, hc]; done) | (simp [h20', h20, hx0, hlen, hv, h45, hc]; omega))); clear hA hB A B))
        | (refine RQ.nl ?_; refine hk _ _ ?_; clear hk k)
        | (refine RQ.st fun A B hA hB => ?_; simp [h20', h20, hx0, hlen, hv, h45, hc, onW_t, onW_f, onV_s]; first | (refine hA _ _ _ ?_ (by first | exact .inl rfl | exact .inr (by decide)) ?_; (focus (first | (simp [h20', h20, hx0, hlen, hv, h45, hc]; done) | (simp [h20', h20, hx0, hlen, hv, h45, hc]; omega))); clear hA hB A B) | (refine hB ?_; clear hA hB A B) | (refine onV_if ?_ ?_; (focus (first | omega | (refine ⟨?_, ?_⟩ <;> omega))); simp only [onV_s]; refine hA _ _ _ ?_ (by first | exact .inl rfl | exact .inr (by decide)) ?_; (focus (first | (simp [h20', h20, hx0, hlen, hv, h45, hc]; done) | (simp [h20', h20, hx0, hlen, hv, h45, hc]; omega))); clear hA hB A B))
        | refine WP.sr fun k hk => ?_ | refine WP.r fun k hk => ?_
        | refine WP.sd _ rfl fun k hk => ?_ | refine WP.d _ rfl fun k hk => ?_
        | (refine WP.cc fun A B hA hB => ?_; simp [h20', h20, hx0, hlen, hv, h45, hc, onB_t, onB_f]; first | (refine hA ?_; clear hA hB A B) | (refine hB ?_; clear hA hB A B) | (refine onB_if (fun h => hA ?_) (fun h => hB ?_) <;> clear hA hB A B))
        | refine WP.q ?_ | refine WP.b ?_)
      simp [hr, w0]
    · skip
      repeat' (first
        | refine WP.t ?_ | refine WP.k ?_ | refine WP.e ?_ | refine Qn ?_ | refine Qr ?_ | refine Qe ?_ | refine Bn ?_ | refine Br ?_ | refine Be ?_ | refine Bx (by decide) ?_
        | (refine RS.nl ?_; refine hk _ _ ?_; clear hk k)
        | (refine RS.st fun A B hA hB => ?_; simp [h20', h20, hx0, hlen, hv, h45, hc, onW_t, onW_f, onV_s]; first | (refine hA _ _ _ ?_ ?_; (focus (first | (simp [h20', h20, hx0, hlen, hv, h45, hc]; done) | (simp [h20', h20, hx0, hlen, hv, h45, hc]; omega))); clear hA hB A B) | (refine hB ?_; clear hA hB A B) | (refine onV_if ?_ ?_; (focus (first | omega | (refine ⟨?_, ?_⟩ <;> omega))); simp only [onV_s]; refine hA _ _ _ ?_ ?_; (focus (first | (simp [h20', h20, hx0, hlen, hv, h45, hc]; done) | (simp [h20', h20, hx0, hlen, hv, h45, hc]; omega))); clear hA hB A B))
        | (refine RQ.nl ?_; refine hk _ _ ?_; clear hk k)
        | (refine RQ.st fun A B hA hB => ?_; simp [h20', h20, hx0, hlen, hv, h45, hc, onW_t, onW_f, onV_s]; first | (refine hA _ _ _ ?_ (by first | exact .inl rfl | exact .inr (by decide)) ?_; (focus (first | (simp [h20', h20, hx0, hlen, hv, h45, hc]; done) | (simp [h20', h20, hx0, hlen, hv, h45, hc]; omega))); clear hA hB A B) | (refine hB ?_; clear hA hB A B) | (refine onV_if ?_ ?_; (focus (first | omega | (refine ⟨?_, ?_⟩ <;> omega))); simp only [onV_s]; refine hA _ _ _ ?_ (by first | exact .inl rfl | exact .inr (by decide)) ?_; (focus (first | (simp [h20', h20, hx0, hlen, hv, h45, hc]; done) | (simp [h20', h20, hx0, hlen, hv, h45, hc]; omega))); clear hA hB A B))
        | refine WP.sr fun k hk => ?_ | refine WP.r fun k hk => ?_
        | refine WP.sd _ rfl fun k hk => ?_ | refine WP.d _ rfl fun k hk => ?_
        | (refine WP.cc fun A B hA hB => ?_; simp [h20', h20, hx0, hlen, hv, h45, hc, onB_t, onB_f]; first | (refine hA ?_; clear hA hB A B) | (refine hB ?_; clear hA hB A B) | (refine onB_if (fun h => hA ?_) (fun h => hB ?_) <;> clear hA hB A B))
        | refine WP.q ?_ | refine WP.b ?_)
      simp [hr, w0]
end
end Go.Am
namespace Go.Am
open Go.Proofs Go.Shelf
theorem join_cc (x y : Str) (l : List Str) (p : Str) : Lib.join (x :: y :: l) p = x ++ p ++ Lib.join (y :: l) p := by simp [Lib.join, List.intercalate_cons_cons]
/-- A word; the empty text: there is none. -/
def atW (w : List Str) (i : Nat) : Str := w.getD i []
section
variable {K : Nat} {gw : World} {s : St}
attribute [local simp] awanted xop zOf zrow aop ev T0 Slots.put Slots.set Slots.get awr WOk AV.may ofConst abinop aint isConst St.get_push St.get_put St.live AV.fit AV.cells AV.one fieldOf afieldAddr aload ofCells astore splice May eqres env_ti FinP FinZ FinW ares aresL ares1 Fns.addP Fns.add Fns.a0 Fns.a1 Fns.a2 Fns.a3 Fns.a4 abuiltin alenOk alen aindex elemOfT elemId abuildSlice afill chunks ard aappend isSS AV.isStr aminmax placesOf abuild afield aidx isStrD isStrDesc astrop aslice asliceOk abound arange anext aextract aunop aeq AV.ck avseq aveq aconv aconvert onB_t onB_f List.range_succ ti0 ti1 ti2 ti3 ti4 ti5 ti6 ti7 ti8 ti9 ti10 ti11 ti12 ti13 ti14 ti15 ti16 ti17 ti18 ti19 ti20 ti21 ti22 ti23 ti24 ti25 ti26 ti27 ti28 ti29 ti30 ti31 ti32 ti33 ti34 ti35 ti36 ti37 ti38 ti39 ti40 ti41 ti42 ti43 ti44 ti45 ti46 ti47 ti48 ti49 ti50 ti51 ti52 ti53 ti54 ti55 ti56 ti57 ti58 ti59 ti60 ti61 ti62 ti63 ti64 ti65 ti66 ti67 ti68 ti69 ti70 ti71 ti72 ti73 ti74 ti75 ti76 ti77 ti78 ti79 ti80 ti81 ti82 ti83 ti84 ti85 ti86 ti87 ti88 ti89 ti90 ti91 ti92 ti93 ti94 ti95 ti96 ti97 ti98 ti99 ti100 ti101
def RF : Fns := ((RE.a1 48 vStr fun x => if x.length ≤ 100000 then some (.sl ((splitC 32 0 x).map sc)) else none).a2 49 (vSl cStr) (vInt .i64) fun l i => if l.length < LIM ∧ 0 ≤ i then some (.str (atW l i.toNat)) else none).a1 50 vStr fun x => if x.length < LIM then some (.int .i64 (numR x)) else none
theorem RF_ok : FOk (env K gw) RF := by
  refine ((RE_ok.a1 ?_).a2 ?_).a1 ?_
  · intro x s r h; split at h <;> cases h; exact ft_wordsR x ‹_›
  · intro l i s r h
    split at h <;> cases h
    rename_i h
    obtain ⟨n, rfl⟩ : ∃ n : Nat, i = n := ⟨i.toNat, by omega⟩
    exact ft_at l n h.1
  · intro x s r h; split at h <;> cases h; exact ft_numberR x ‹_›
def guessW (w : List Str) : Sm :=
  if atW w 0 = kSink then ⟨6, [], atW w 1, [], [], 0, 0, 0⟩
  else if atW w 0 = kBranch then ⟨7, [], atW w 1, [], [], 0, numR (atW w 2), numR (atW w 3)⟩
  else if atW w 0 = kJump then ⟨8, [], [], [], [], 0, numR (atW w 1), 0⟩
  else if atW w 0 = kReturn then ⟨9, [], [], [], [], 0, 0, 0⟩
  else if atW w 2 = kSource then ⟨4, atW w 0, [], [], [], 0, 0, 0⟩
  else if atW w 2 = kClean then ⟨5, atW w 0, atW w 3, [], [], 0, 0, 0⟩
  else if w.length = 5 then ⟨2, atW w 0, atW w 2, atW w 4, atW w 3, 0, 0, 0⟩
  else if nameB (atW w 2) = true then ⟨3, atW w 0, atW w 2, [], [], 0, 0, 0⟩
  else ⟨1, atW w 0, [], [], [], numR (atW w 2), 0, 0⟩
set_option maxHeartbeats 4000000 in
theorem ft_guess (x : Str) (hl : x.length ≤ 100000) : FT (env K gw) NoW 27 [.str x] s (.agg (guessW (splitC 32 0 x)).cs) s := by
  refine FT.pure (fn := Tryd.f27) RF_ok mixed Tryd.func27 (by kernel_rfl) (by rfl) rfl rfl (by simp) rfl fun μ w => ?_
  have hWl : (splitC 32 0 x).length < LIM := by have := splitC_len 32 0 x; simp only [LIM]; omega
  have hWm : ∀ y ∈ splitC 32 0 x, y.length ≤ 100000 := fun y hy => Nat.le_trans (splitC_mem 32 0 x y hy) hl
  generalize hW : splitC 32 0 x = W at *
  have g : ∀ i, (atW W i).length < LIM := fun i => by have := getD_le hWm i; simp only [LIM, atW]; omega
  have g1 := g 1
  have g2 := g 2
  have g3 := g 3
  generalize h0 : atW W 0 = a at *
  generalize h2 : atW W 2 = c at *
  by_cases c1 : a = kSink
  · subst c1
    repeat' (first
      | refine WP.t ?_ | refine WP.k ?_ | refine WP.e ?_ | refine Qn ?_ | refine Qr ?_ | refine Qe ?_ | refine Bn ?_ | refine Br ?_ | refine Be ?_ | refine Bx (by decide) ?_
      | (refine RS.nl ?_; refine hk _ _ ?_; clear hk k)
      | (refine RS.st fun A B hA hB => ?_; simp [RF, RE, RD, RC, hl, hW, hWl, g1, g2, g3, h0, h2, Sm.cs, onW_t, onW_f, onV_s]; first | (refine hA _ _ _ ?_ ?_; (focus (first | (simp [RF, RE, RD, RC, hl, hW, hWl, g1, g2, g3, h0, h2, Sm.cs]; done) | (simp [RF, RE, RD, RC, hl, hW, hWl, g1, g2, g3, h0, h2, Sm.cs]; omega))); clear hA hB A B) | (refine hB ?_; clear hA hB A B) | (refine onV_if ?_ ?_; (focus (first | omega | (refine ⟨?_, ?_⟩ <;> omega))); simp only [onV_s]; refine hA _ _ _ ?_ ?_; (focus (first | (simp [RF, RE, RD, RC, hl, hW, hWl, g1, g2, g3, h0, h2, Sm.cs]; done) | (simp [RF, RE, RD, RC, hl, hW, hWl, g1, g2, g3, h0, h2, Sm.cs]; omega))); clear hA hB A B))
      | (refine RQ.nl ?_; refine hk _ _ ?_; clear hk k)
      | (refine RQ.st fun A B hA hB => ?_; simp [RF, RE, RD, RC, hl, hW, hWl, g1, g2, g3, h0, h2, Sm.cs, onW_t, onW_f, onV_s]; first | (refine hA _ _ _ ?_ (by first | exact .inl rfl | exact .inr (by decide)) ?_; (focus (first | (simp [RF, RE, RD, RC, hl, hW, hWl, g1, g2, g3, h0, h2, Sm.cs]; done) | (simp [RF, RE, RD, RC, hl, hW, hWl, g1, g2, g3, h0, h2, Sm.cs]; omega))); clear hA hB A B) | (refine hB ?_; clear hA hB A B) | (refine onV_if ?_ ?_; (focus (first | omega | (refine ⟨?_, ?_⟩ <;> omega))); simp only [onV_s]; refine hA _ _ _ ?_ (by first | exact .inl rfl | exact .inr (by decide)) ?_; (focus (first | (simp [RF, RE, RD, RC, hl, hW, hWl, g1, g2, g3, h0, h2, Sm.cs]; done) | (simp [RF, RE, RD, RC, hl, hW, hWl, g1, g2, g3, h0, h2, Sm.cs]; omega))); clear hA hB A B))
      | refine WP.sr fun k hk => ?_ | refine WP.r fun k hk => ?_
      | refine WP.sd _ rfl fun k hk => ?_ | refine WP.d _ rfl fun k hk => ?_
      | (refine WP.cc fun A B hA hB => ?_; simp [RF, RE, RD, RC, hl, hW, hWl, g1, g2, g3, h0, h2, Sm.cs, onB_t, onB_f]; first | (refine hA ?_; clear hA hB A B) | (refine hB ?_; clear hA hB A B) | (refine onB_if (fun h => hA ?_) (fun h => hB ?_) <;> clear hA hB A B))
      | refine WP.q ?_ | refine WP.b ?_)
    simp [guessW, h0, h2, Sm.cs]
  have q1 : (a == kSink) = false := by simpa using c1
  by_cases c2 : a = kBranch
  · subst c2
    repeat' (first
      | refine WP.t ?_ | refine WP.k ?_ | refine WP.e ?_ | refine Qn ?_ | refine Qr ?_ | refine Qe ?_ | refine Bn ?_ | refine Br ?_ | refine Be ?_ | refine Bx (by decide) ?_
      | (refine RS.nl ?_; refine hk _ _ ?_; clear hk k)
      | (refine RS.st fun A B hA hB => ?_; simp [RF, RE, RD, RC, hl, hW, hWl, g1, g2, g3, h0, h2, Sm.cs, c1, q1, onW_t, onW_f, onV_s]; first | (refine hA _ _ _ ?_ ?_; (focus (first | (simp [RF, RE, RD, RC, hl, hW, hWl, g1, g2, g3, h0, h2, Sm.cs, c1, q1]; done) | (simp [RF, RE, RD, RC, hl, hW, hWl, g1, g2, g3, h0, h2, Sm.cs, c1, q1]; omega))); clear hA hB A B) | (refine hB ?_; clear hA hB A B) | (refine onV_if ?_ ?_; (focus (first | omega | (refine ⟨?_, ?_⟩ <;> omega))); simp only [onV_s]; refine hA _ _ _ ?_ ?_; (focus (first | (simp [RF, RE, RD, RC, hl, hW, hWl, g1, g2, g3, h0, h2, Sm.cs, c1, q1]; done) | (simp [RF, RE, RD, RC, hl, hW, hWl, g1, g2, g3, h0, h2, Sm.cs, c1, q1]; omega))); clear hA hB A B))
      | (refine RQ.nl ?_; refine hk _ _ ?_; clear hk k)
      | (refine RQ.st fun A B hA hB => ?_; simp [RF, RE, RD, RC, hl, hW, hWl, g1, g2, g3, h0, h2, Sm.cs, c1, q1, onW_t, onW_f, onV_s]; first | (refine hA _ _ _ ?_ (by first | exact .inl rfl | exact .inr (by decide)) ?_; (focus (first | (simp [RF, RE, RD, RC, hl, hW, hWl, g1, g2, g3, h0, h2, Sm.cs, c1, q1]; done) | (simp [RF, RE, RD, RC, hl, hW, hWl, g1, g2, g3, h0, h2, Sm.cs, c1, q1]; omega))); clear hA hB A B) | (refine hB ?_; clear hA hB A B) | (refine onV_if ?_ ?_; (focus (first | omega | (refine ⟨?_, ?_⟩ <;> omega))); simp only [onV_s]; refine hA _ _ _ ?_ (by first | exact .inl rfl | exact .inr (by decide)) ?_; (focus (first | (simp [RF, RE, RD, RC, hl, hW, hWl, g1, g2, g3, h0, h2, Sm.cs, c1, q1]; done) | (simp [RF, RE, RD, RC, hl, hW, hWl, g1, g2, g3, h0, h2, Sm.cs, c1, q1]; omega))); clear hA hB A B))
      | refine WP.sr fun k hk => ?_ | refine WP.r fun k hk => ?_
      | refine WP.sd _ rfl fun k hk => ?_ | refine WP.d _ rfl fun k hk => ?_
      | (refine WP.cc fun A B hA hB => ?_; simp [RF, RE, RD, RC, hl, hW, hWl, g1, g2, g3, h0, h2, Sm.cs, c1, q1, onB_t, onB_f]; first | (refine hA ?_; clear hA hB A B) | (refine hB ?_; clear hA hB A B) | (refine onB_if (fun h => hA ?_) (fun h => hB ?_) <;> clear hA hB A B))
      | refine WP.q ?_ | refine WP.b ?_)
    simp [guessW, h0, h2, Sm.cs, c1, q1]
  have q2 : (a == kBranch) = false := by simpa using c2
  by_cases c3 : a = kJump
  · subst c3
    repeat' (first
      | refine WP.t ?_ | refine WP.k ?_ | refine WP.e ?_ | refine Qn ?_ | refine Qr ?_ | refine Qe ?_ | refine Bn ?_ | refine Br ?_ | refine Be ?_ | refine Bx (by decide) ?_
      | (refine RS.nl ?_; refine hk _ _ ?_; clear hk k)
      | (refine RS.st fun A B hA hB => ?_; simp [RF, RE, RD, RC, hl, hW, hWl, g1, g2, g3, h0, h2, Sm.cs, c1, q1, c2, q2, onW_t, onW_f, onV_s]; first | (refine hA _ _ _ ?_ ?_; (focus (first | (simp [RF, RE, RD, RC, hl, hW, hWl, g1, g2, g3, h0, h2, Sm.cs, c1, q1, c2, q2]; done) | (simp [RF, RE, RD, RC, hl, hW, hWl, g1, g2, g3, h0, h2, Sm.cs, c1, q1, c2, q2]; omega))); clear hA hB A B) | (refine hB ?_; clear hA hB A B) | (refine onV_if ?_ ?_; (focus (first | omega | (refine ⟨?_, ?_⟩ <;> omega))); simp only [onV_s]; refine hA _ _ _ ?_ ?_; (focus (first | (simp [RF, RE, RD, RC, hl, hW, hWl, g1, g2, g3, h0, h2, Sm.cs, c1, q1, c2, q2]; done) | (simp [RF, RE, RD, RC, hl, hW, hWl, g1, g2, g3, h0, h2, Sm.cs, c1, q1, c2, q2]; omega))); clear hA hB A B))
      | (refine RQ.nl ?_; refine hk _ _ ?_; clear hk k)
      | (refine RQ.st fun A B hA hB => ?_; simp [RF, RE, RD, RC, hl, hW, hWl, g1, g2, g3, h0, h2, Sm.cs, c1, q1, c2, q2, onW_t, onW_f, onV_s]; first | (refine hA _ _ _ ?_ (by first | exact .inl rfl | exact .inr (by decide)) ?_; (focus (first | (simp [RF, RE, RD, RC, hl, hW, hWl, g1, g2, g3, h0, h2, Sm.cs, c1, q1, c2, q2]; done) | (simp [RF, RE, RD, RC, hl, hW, hWl, g1, g2, g3, h0, h2, Sm.cs, c1, q1, c2, q2]; omega))); clear hA hB A B) | (refine hB ?_; clear hA hB A B) | (refine onV_if ?_ ?_; (focus (first | omega | (refine ⟨?_, ?_⟩ <;> omega))); simp only [onV_s]; refine hA _ _ _ ?_ (by first | exact .inl rfl | exact .inr (by decide)) ?_; (focus (first | (simp [RF, RE, RD, RC, hl, hW, hWl, g1, g2, g3, h0, h2, Sm.cs, c1, q1, c2, q2]; done) | (simp [RF, RE, RD, RC, hl, hW, hWl, g1, g2, g3, h0, h2, Sm.cs, c1, q1, c2, q2]; omega))); clear hA hB A B))
      | refine WP.sr fun k hk => ?_ | refine WP.r fun k hk => ?_
      | refine WP.sd _ rfl fun k hk => ?_ | refine WP.d _ rfl fun k hk => ?_
      | (refine WP.cc fun A B hA hB => ?_; simp [RF, RE, RD, RC, hl, hW, hWl, g1, g2, g3, h0, h2, Sm.cs, c1, q1, c2, q2, onB_t, onB_f]; first | (refine hA ?_; clear hA hB A B) | (refine hB ?_; clear hA hB A B) | (refine onB_if (fun h => hA ?_) (fun h => hB ?_) <;> clear hA hB A B))
      | refine WP.q ?_ | refine WP.b ?_)
    simp [guessW, h0, h2, Sm.cs, c1, q1, c2, q2]
  have q3 : (a == kJump) = false := by simpa using c3
  by_cases c4 : a = kReturn
  · subst c4
    repeat' (first
      | refine WP.t ?_ | refine WP.k ?_ | refine WP.e ?_ | refine Qn ?_ | refine Qr ?_ | refine Qe ?_ | refine Bn ?_ | refine Br ?_ | refine Be ?_ | refine Bx (by decide) ?_
      | (refine RS.nl ?_; refine hk _ _ ?_; clear hk k)
      | (refine RS.st fun A B hA hB => ?_; simp [RF, RE, RD, RC, hl, hW, hWl, g1, g2, g3, h0, h2, Sm.cs, c1, q1, c2, q2, c3, q3, onW_t, onW_f, onV_s]; first | (refine hA _ _ _ ?_ ?_; (focus (first | (simp [RF, RE, RD, RC, hl, hW, hWl, g1, g2, g3, h0, h2, Sm.cs, c1, q1, c2, q2, c3, q3]; done) | (simp [RF, RE, RD, RC, hl, hW, hWl, g1, g2, g3, h0, h2, Sm.cs, c1, q1, c2, q2, c3, q3]; omega))); clear hA hB A B) | (refine hB ?_; clear hA hB A B) | (refine onV_if ?_ ?_; (focus (first | omega | (refine ⟨?_, ?_⟩ <;> omega))); simp only [onV_s]; refine hA _ _ _ ?_ ?_; (focus (first | (simp [RF, RE, RD, RC, hl, hW, hWl, g1, g2, g3, h0, h2, Sm.cs, c1, q1, c2, q2, c3, q3]; done) | (simp [RF, RE, RD, RC, hl, hW, hWl, g1, g2, g3, h0, h2, Sm.cs, c1, q1, c2, q2, c3, q3]; omega))); clear hA hB A B))
      | (refine RQ.nl ?_; refine hk _ _ ?_; clear hk k)
      | (refine RQ.st fun A B hA hB => ?_; simp [RF, RE, RD, RC, hl, hW, hWl, g1, g2, g3, h0, h2, Sm.cs, c1, q1, c2, q2, c3, q3, onW_t, onW_f, onV_s]; first | (refine hA _ _ _ ?_ (by first | exact .inl rfl | exact .inr (by decide)) ?_; (focus (first | (simp [RF, RE, RD, RC, hl, hW, hWl, g1, g2, g3, h0, h2, Sm.cs, c1, q1, c2, q2, c3, q3]; done) | (simp [RF, RE, RD, RC, hl, hW, hWl, g1, g2, g3, h0, h2, Sm.cs, c1, q1, c2, q2, c3, q3]; omega))); clear hA hB A B) | (refine hB ?_; clear hA hB A B) | (refine onV_if ?_ ?_; (focus (first | omega | (refine ⟨?_, ?_⟩ <;> omega))); simp only [onV_s]; refine hA _ _ _ ?_ (by first | exact .inl rfl | exact .inr (by decide)) ?_; (focus (first | (simp [RF, RE, RD, RC, hl, hW, hWl, g1, g2, g3, h0, h2, Sm.cs, c1, q1, c2, q2, c3, q3]; done) | (simp [RF, RE, RD, RC, hl, hW, hWl, g1, g2, g3, h0, h2, Sm.cs, c1, q1, c2, q2, c3, q3]; omega))); clear hA hB A B))
      | refine WP.sr fun k hk => ?_ | refine WP.r fun k hk => ?_
      | refine WP.sd _ rfl fun k hk => ?_ | refine WP.d _ rfl fun k hk => ?_
      | (refine WP.cc fun A B hA hB => ?_; simp [RF, RE, RD, RC, hl, hW, hWl, g1, g2, g3, h0, h2, Sm.cs, c1, q1, c2, q2, c3, q3, onB_t, onB_f]; first | (refine hA ?_; clear hA hB A B) | (refine hB ?_; clear hA hB A B) | (refine onB_if (fun h => hA ?_) (fun h => hB ?_) <;> clear hA hB A B))
      | refine WP.q ?_ | refine WP.b ?_)
    simp [guessW, h0, h2, Sm.cs, c1, q1, c2, q2, c3, q3]
  have q4 : (a == kReturn) = false := by simpa using c4
  by_cases c5 : c = kSource
  · subst c5
    repeat' (first
      | refine WP.t ?_ | refine WP.k ?_ | refine WP.e ?_ | refine Qn ?_ | refine Qr ?_ | refine Qe ?_ | refine Bn ?_ | refine Br ?_ | refine Be ?_ | refine Bx (by decide) ?_
      | (refine RS.nl ?_; refine hk _ _ ?_; clear hk k)
      | (refine RS.st fun A B hA hB => ?_; simp [RF, RE, RD, RC, hl, hW, hWl, g1, g2, g3, h0, h2, Sm.cs, c1, q1, c2, q2, c3, q3, c4, q4, onW_t, onW_f, onV_s]; first | (refine hA _ _ _ ?_ ?_; (focus (first | (simp [RF, RE, RD, RC, hl, hW, hWl, g1, g2, g3, h0, h2, Sm.cs, c1, q1, c2, q2, c3, q3, c4, q4]; done) | (simp [RF, RE, RD, RC, hl, hW, hWl, g1, g2, g3, h0, h2, Sm.cs, c1, q1, c2, q2, c3, q3, c4, q4]; omega))); clear hA hB A B) | (refine hB ?_; clear hA hB A B) | (refine onV_if ?_ ?_; (focus (first | omega | (refine ⟨?_, ?_⟩ <;> omega))); simp only [onV_s]; refine hA _ _ _ ?_ ?_; (focus (first | (simp [RF, RE, RD, RC, hl, hW, hWl, g1, g2, g3, h0, h2, Sm.cs, c1, q1, c2, q2, c3, q3, c4, q4]; done) | (simp [RF, RE, RD, RC, hl, hW, hWl, g1, g2, g3, h0, h2, Sm.cs, c1, q1, c2, q2, c3, q3, c4, q4]; omega))); clear hA hB A B))
      | (refine RQ.nl ?_; refine hk _ _ ?_; clear hk k)
      | (refine RQ.st fun A B hA hB => ?_; simp [RF, RE, RD, RC, hl, hW, hWl, g1, g2, g3, h0, h2, Sm.cs, c1, q1, c2, q2, c3, q3, c4, q4, onW_t, onW_f, onV_s]; first | (refine hA _ _ _ ?_ (by first | exact .inl rfl | exact .inr (by decide)) ?_; (focus (first | (simp [RF, RE, RD, RC, hl, hW, hWl, g1, g2, g3, h0, h2, Sm.cs, c1, q1, c2, q2, c3, q3, c4, q4]; done) | (simp [RF, RE, RD, RC, hl, hW, hWl, g1, g2, g3, h0, h2, Sm.cs, c1, q1, c2, q2, c3, q3, c4, q4]; omega))); clear hA hB A B) | (refine hB ?_; clear hA hB A B) | (refine onV_if ?_ ?_; (focus (first | omega | (refine ⟨?_, ?_⟩ <;> omega))); simp only [onV_s]; refine hA _ _ _ ?_ (by first | exact .inl rfl | exact .inr (by decide)) ?_; (focus (first | (simp [RF, RE, RD, RC, hl, hW, hWl, g1, g2, g3, h0, h2, Sm.cs, c1, q1, c2, q2, c3, q3, c4, q4]; done) | (simp [RF, RE, RD, RC, hl, hW, hWl, g1, g2, g3, h0, h2, Sm.cs, c1, q1, c2, q2, c3, q3, c4, q4]; omega))); clear hA hB A B))
      | refine WP.sr fun k hk => ?_ | refine WP.r fun k hk => ?_
      | refine WP.sd _ rfl fun k hk => ?_ | refine WP.d _ rfl fun k hk => ?_
      | (refine WP.cc fun A B hA hB => ?_; simp [RF, RE, RD, RC, hl, hW, hWl, g1, g2, g3, h0, h2, Sm.cs, c1, q1, c2, q2, c3, q3, c4, q4, onB_t, onB_f]; first | (refine hA ?_; clear hA hB A B) | (refine hB ?_; clear hA hB A B) | (refine onB_if (fun h => hA ?_) (fun h => hB ?_) <;> clear hA hB A B))
      | refine WP.q ?_ | refine WP.b ?_)
    simp [guessW, h0, h2, Sm.cs, c1, q1, c2, q2, c3, q3, c4, q4]
  have q5 : (c == kSource) = false := by simpa using c5
  by_cases c6 : c = kClean
  · subst c6
    repeat' (first
      | refine WP.t ?_ | refine WP.k ?_ | refine WP.e ?_ | refine Qn ?_ | refine Qr ?_ | refine Qe ?_ | refine Bn ?_ | refine Br ?_ | refine Be ?_ | refine Bx (by decide) ?_
      | (refine RS.nl ?_; refine hk _ _ ?_; clear hk k)
      | (refine RS.st fun A B hA hB => ?_; simp [RF, RE, RD, RC, hl, hW, hWl, g1, g2, g3, h0, h2, Sm.cs, c1, q1, c2, q2, c3, q3, c4, q4, c5, q5, onW_t, onW_f, onV_s]; first | (refine hA _ _ _ ?_ ?_; (focus (first | (simp [RF, RE, RD, RC, hl, hW, hWl, g1, g2, g3, h0, h2, Sm.cs, c1, q1, c2, q2, c3, q3, c4, q4, c5, q5]; done) | (simp [RF, RE, RD, RC, hl, hW, hWl, g1, g2, g3, h0, h2, Sm.cs, c1, q1, c2, q2, c3, q3, c4, q4, c5, q5]; omega))); clear hA hB A B) | (refine hB ?_; clear hA hB A B) | (refine onV_if ?_ ?_; (focus (first | omega | (refine ⟨?_, ?_⟩ <;> omega))); simp only [onV_s]; refine hA _ _ _ ?_ ?_; (focus (first | (simp [RF, RE, RD, RC, hl, hW, hWl, g1, g2, g3, h0, h2, Sm.cs, c1, q1, c2, q2, c3, q3, c4, q4, c5, q5]; done) | (simp [RF, RE, RD, RC, hl, hW, hWl, g1, g2, g3, h0, h2, Sm.cs, c1, q1, c2, q2, c3, q3, c4, q4, c5, q5]; omega))); clear hA hB A B))
      | (refine RQ.nl ?_; refine hk _ _ ?_; clear hk k)
      | (refine RQ.st fun A B hA hB => ?_; simp [RF, RE, RD, RC, hl, hW, hWl, g1, g2, g3, h0, h2, Sm.cs, c1, q1, c2, q2, c3, q3, c4, q4, c5, q5, onW_t, onW_f, onV_s]; first | (refine hA _ _ _ ?_ (by first | exact .inl rfl | exact .inr (by decide)) ?_; (focus (first | (simp [RF, RE, RD, RC, hl, hW, hWl, g1, g2, g3, h0, h2, Sm.cs, c1, q1, c2, q2, c3, q3, c4, q4, c5, q5]; done) | (simp [RF, RE, RD, RC, hl, hW, hWl, g1, g2, g3, h0, h2, Sm.cs, c1, q1, c2, q2, c3, q3, c4, q4, c5, q5]; omega))); clear hA hB A B) | (refine hB ?_; clear hA hB A B) | (refine onV_if ?_ ?_; (focus (first | omega | (refine ⟨?_, ?_⟩ <;> omega))); simp only [onV_s]; refine hA _ _ _ ?_ (by first | exact .inl rfl | exact .inr (by decide)) ?_; (focus (first | (simp [RF, RE, RD, RC, hl, hW, hWl, g1, g2, g3, h0, h2, Sm.cs, c1, q1, c2, q2, c3, q3, c4, q4, c5, q5]; done) | (simp [RF, RE, RD, RC, hl, hW, hWl, g1, g2, g3, h0, h2, Sm.cs, c1, q1, c2, q2, c3, q3, c4, q4, c5, q5]; omega))); clear hA hB A B))
      | refine WP.sr fun k hk => ?_ | refine WP.r fun k hk => ?_
      | refine WP.sd _ rfl fun k hk => ?_ | refine WP.d _ rfl fun k hk => ?_
      | (refine WP.cc fun A B hA hB => ?_; simp [RF, RE, RD, RC, hl, hW, hWl, g1, g2, g3, h0, h2, Sm.cs, c1, q1, c2, q2, c3, q3, c4, q4, c5, q5, onB_t, onB_f]; first | (refine hA ?_; clear hA hB A B) | (refine hB ?_; clear hA hB A B) | (refine onB_if (fun h => hA ?_) (fun h => hB ?_) <;> clear hA hB A B))
      | refine WP.q ?_ | refine WP.b ?_)
    simp [guessW, h0, h2, Sm.cs, c1, q1, c2, q2, c3, q3, c4, q4, c5, q5]
  have q6 : (c == kClean) = false := by simpa using c6
  by_cases h5 : W.length = 5
  · match W, h5 with
    | [u0, u1, u2, u3, u4], _ =>
    repeat' (first
      | refine WP.t ?_ | refine WP.k ?_ | refine WP.e ?_ | refine Qn ?_ | refine Qr ?_ | refine Qe ?_ | refine Bn ?_ | refine Br ?_ | refine Be ?_ | refine Bx (by decide) ?_
      | (refine RS.nl ?_; refine hk _ _ ?_; clear hk k)
      | (refine RS.st fun A B hA hB => ?_; simp [RF, RE, RD, RC, hl, hW, hWl, g1, g2, g3, h0, h2, Sm.cs, c1, q1, c2, q2, c3, q3, c4, q4, c5, q5, c6, q6, sc, onW_t, onW_f, onV_s]; first | (refine hA _ _ _ ?_ ?_; (focus (first | (simp [RF, RE, RD, RC, hl, hW, hWl, g1, g2, g3, h0, h2, Sm.cs, c1, q1, c2, q2, c3, q3, c4, q4, c5, q5, c6, q6, sc]; done) | (simp [RF, RE, RD, RC, hl, hW, hWl, g1, g2, g3, h0, h2, Sm.cs, c1, q1, c2, q2, c3, q3, c4, q4, c5, q5, c6, q6, sc]; omega))); clear hA hB A B) | (refine hB ?_; clear hA hB A B) | (refine onV_if ?_ ?_; (focus (first | omega | (refine ⟨?_, ?_⟩ <;> omega))); simp only [onV_s]; refine hA _ _ _ ?_ ?_; (focus (first | (simp [RF, RE, RD, RC, hl, hW, hWl, g1, g2, g3, h0, h2, Sm.cs, c1, q1, c2, q2, c3, q3, c4, q4, c5, q5, c6, q6, sc]; done) | (simp [RF, RE, RD, RC, hl, hW, hWl, g1, g2, g3, h0, h2, Sm.cs, c1, q1, c2, q2, c3, q3, c4, q4, c5, q5, c6, q6, sc]; omega))); clear hA hB A B))
      | (refine RQ.nl ?_; refine hk _ _ ?_; clear hk k)
      | (refine RQ.st fun A B hA hB => ?_; simp [RF, RE, RD, RC, hl, hW, hWl, g1, g2, g3, h0, h2, Sm.cs, c1, q1, c2, q2, c3, q3, c4, q4, c5, q5, c6, q6, sc, onW_t, onW_f, onV_s]; first | (refine hA _ _ _ ?_ (by first | exact .inl rfl | exact .inr (by decide)) ?_; (focus (first | (simp [RF, RE, RD, RC, hl, hW, hWl, g1, g2, g3, h0, h2, Sm.cs, c1, q1, c2, q2, c3, q3, c4, q4, c5, q5, c6, q6, sc]; done) | (simp [RF, RE, RD, RC, hl, hW, hWl, g1, g2, g3, h0, h2, Sm.cs, c1, q1, c2, q2, c3, q3, c4, q4, c5, q5, c6, q6, sc]; omega))); clear hA hB A B) | (refine hB ?_; clear hA hB A B) | (refine onV_if ?_ ?_; (focus (first | omega | (refine ⟨?_, ?_⟩ <;> omega))); simp only [onV_s]; refine hA _ _ _ ?_ (by first | exact .inl rfl | exact .inr (by decide)) ?_; (focus (first | (simp [RF, RE, RD, RC, hl, hW, hWl, g1, g2, g3, h0, h2, Sm.cs, c1, q1, c2, q2, c3, q3, c4, q4, c5, q5, c6, q6, sc]; done) | (simp [RF, RE, RD, RC, hl, hW, hWl, g1, g2, g3, h0, h2, Sm.cs, c1, q1, c2, q2, c3, q3, c4, q4, c5, q5, c6, q6, sc]; omega))); clear hA hB A B))
      | refine WP.sr fun k hk => ?_ | refine WP.r fun k hk => ?_
      | refine WP.sd _ rfl fun k hk => ?_ | refine WP.d _ rfl fun k hk => ?_
      | (refine WP.cc fun A B hA hB => ?_; simp [RF, RE, RD, RC, hl, hW, hWl, g1, g2, g3, h0, h2, Sm.cs, c1, q1, c2, q2, c3, q3, c4, q4, c5, q5, c6, q6, sc, onB_t, onB_f]; first | (refine hA ?_; clear hA hB A B) | (refine hB ?_; clear hA hB A B) | (refine onB_if (fun h => hA ?_) (fun h => hB ?_) <;> clear hA hB A B))
      | refine WP.q ?_ | refine WP.b ?_)
    simp [atW] at h0 h2
    subst h0; subst h2
    simp [guessW, atW, Sm.cs, c1, c2, c3, c4, c5, c6]
  · have q7 : ((W.length : Int) == 5) = false := by simp; omega
    cases hn : nameB c
    · skip
      repeat' (first
        | refine WP.t ?_ | refine WP.k ?_ | refine WP.e ?_ | refine Qn ?_ | refine Qr ?_ | refine Qe ?_ | refine Bn ?_ | refine Br ?_ | refine Be ?_ | refine Bx (by decide) ?_
        | (refine RS.nl ?_; refine hk _ _ ?_; clear hk k)
        | (refine RS.st fun A B hA hB => ?_; simp [RF, RE, RD, RC, hl, hW, hWl, g1, g2, g3, h0, h2, Sm.cs, c1, q1, c2, q2, c3, q3, c4, q4, c5, q5, c6, q6, q7, hn, onW_t, onW_f, onV_s]; first | (refine hA _ _ _ ?_ ?_; (focus (first | (simp [RF, RE, RD, RC, hl, hW, hWl, g1, g2, g3, h0, h2, Sm.cs, c1, q1, c2, q2, c3, q3, c4, q4, c5, q5, c6, q6, q7, hn]; done) | (simp [RF, RE, RD, RC, hl, hW, hWl, g1, g2, g3, h0, h2, Sm.cs, c1, q1, c2, q2, c3, q3, c4, q4, c5, q5, c6, q6, q7, hn]; omega))); clear hA hB A B) | (refine hB ?_; clear hA hB A B) | (refine onV_if ?_ ?_; (focus (first | omega | (refine ⟨?_, ?_⟩ <;> omega))); simp only [onV_s]; refine hA _ _ _ ?_ ?_; (focus (first | (simp [RF, RE, RD, RC, hl, hW, hWl, g1, g2, g3, h0, h2, Sm.cs, c1, q1, c2, q2, c3, q3, c4, q4, c5, q5, c6, q6, q7, hn]; done) | (simp [RF, RE, RD, RC, hl, hW, hWl, g1, g2, g3, h0, h2, Sm.cs, c1, q1, c2, q2, c3, q3, c4, q4, c5, q5, c6, q6, q7, hn]; omega))); clear hA hB A B))
        | (refine RQ.nl ?_; refine hk _ _ ?_; clear hk k)
        | (refine RQ.st fun A B hA hB => ?_; simp [RF, RE, RD, RC, hl, hW, hWl, g1, g2, g3, h0, h2, Sm.cs, c1, q1, c2, q2, c3, q3, c4, q4, c5, q5, c6, q6, q7, hn, onW_t, onW_f, onV_s]; first | (refine hA _ _ _ ?_ (by first | exact .inl rfl | exact .inr (by decide)) ?_; (focus (first | (simp [RF, RE, RD, RC, hl, hW, hWl, g1, g2, g3, h0, h2, Sm.cs, c1, q1, c2, q2, c3, q3, c4, q4, c5, q5, c6, q6, q7, hn]; done) | (simp [RF, RE, RD, RC, hl, hW, hWl, g1, g2, g3, h0, h2, Sm.cs, c1, q1, c2, q2, c3, q3, c4, q4, c5, q5, c6, q6, q7, hn]; omega))); clear hA hB A B) | (refine hB ?_; clear hA hB A B) | (refine onV_if ?_ ?_; (focus (first | omega | (refine ⟨?_, ?_⟩ <;> omega))); simp only [onV_s]; refine hA _ _ _ ?_ (by first | exact .inl rfl | exact .inr (by decide)) ?_; (focus (first | (simp [RF, RE, RD, RC, hl, hW, hWl, g1, g2, g3, h0, h2, Sm.cs, c1, q1, c2, q2, c3, q3, c4, q4, c5, q5, c6, q6, q7, hn]; done) | (simp [RF, RE, RD, RC, hl, hW, hWl, g1, g2, g3, h0, h2, Sm.cs, c1, q1, c2, q2, c3, q3, c4, q4, c5, q5, c6, q6, q7, hn]; omega))); clear hA hB A B))
        | refine WP.sr fun k hk => ?_ | refine WP.r fun k hk => ?_
        | refine WP.sd _ rfl fun k hk => ?_ | refine WP.d _ rfl fun k hk => ?_
        | (refine WP.cc fun A B hA hB => ?_; simp [RF, RE, RD, RC, hl, hW, hWl, g1, g2, g3, h0, h2, Sm.cs, c1, q1, c2, q2, c3, q3, c4, q4, c5, q5, c6, q6, q7, hn, onB_t, onB_f]; first | (refine hA ?_; clear hA hB A B) | (refine hB ?_; clear hA hB A B) | (refine onB_if (fun h => hA ?_) (fun h => hB ?_) <;> clear hA hB A B))
        | refine WP.q ?_ | refine WP.b ?_)
      simp [guessW, h0, h2, Sm.cs, c1, c2, c3, c4, c5, c6, h5, hn]
    · skip
      repeat' (first
        | refine WP.t ?_ | refine WP.k ?_ | refine WP.e ?_ | refine Qn ?_ | refine Qr ?_ | refine Qe ?_ | refine Bn ?_ | refine Br ?_ | refine Be ?_ | refine Bx (by decide) ?_
        | (refine RS.nl ?_; refine hk _ _ ?_; clear hk k)
        | (refine RS.st fun A B hA hB => ?_; simp [RF, RE, RD, RC, hl, hW, hWl, g1, g2, g3, h0, h2, Sm.cs, c1, q1, c2, q2, c3, q3, c4, q4, c5, q5, c6, q6, q7, hn, onW_t, onW_f, onV_s]; first | (refine hA _ _ _ ?_ ?_; (focus (first | (simp [RF, RE, RD, RC, hl, hW, hWl, g1, g2, g3, h0, h2, Sm.cs, c1, q1, c2, q2, c3, q3, c4, q4, c5, q5, c6, q6, q7, hn]; done) | (simp [RF, RE, RD, RC, hl, hW, hWl, g1, g2, g3, h0, h2, Sm.cs, c1, q1, c2, q2, c3, q3, c4, q4, c5, q5, c6, q6, q7, hn]; omega))); clear hA hB A B) | (refine hB ?_; clear hA hB A B) | (refine onV_if ?_ ?_; (focus (first | omega | (refine ⟨?_, ?_⟩ <;> omega))); simp only [onV_s]; refine hA _ _ _ ?_ ?_; (focus (first | (simp [RF, RE, RD, RC, hl, hW, hWl, g1, g2, g3, h0, h2, Sm.cs, c1, q1, c2, q2, c3, q3, c4, q4, c5, q5, c6, q6, q7, hn]; done) | (simp [RF, RE, RD, RC, hl, hW, hWl, g1, g2, g3, h0, h2, Sm.cs, c1, q1, c2, q2, c3, q3, c4, q4, c5, q5, c6, q6, q7, hn]; omega))); clear hA hB A B))
        | (refine RQ.nl ?_; refine hk _ _ ?_; clear hk k)
        | (refine RQ.st fun A B hA hB => ?_; simp [RF, RE, RD, RC, hl, hW, hWl, g1, g2, g3, h0, h2, Sm.cs, c1, q1, c2, q2, c3, q3, c4, q4, c5, q5, c6, q6, q7, hn, onW_t, onW_f, onV_s]; first | (refine hA _ _ _ ?_ (by first | exact .inl rfl | exact .inr (by decide)) ?_; (focus (first | (simp [RF, RE, RD, RC, hl, hW, hWl, g1, g2, g3, h0, h2, Sm.cs, c1, q1, c2, q2, c3, q3, c4, q4, c5, q5, c6, q6, q7, hn]; done) | (simp [RF, RE, RD, RC, hl, hW, hWl, g1, g2, g3, h0, h2, Sm.cs, c1, q1, c2, q2, c3, q3, c4, q4, c5, q5, c6, q6, q7, hn]; omega))); clear hA hB A B) | (refine hB ?_; clear hA hB A B) | (refine onV_if ?_ ?_; (focus (first | omega | (refine ⟨?_, ?_⟩ <;> omega))); simp only [onV_s]; refine hA _ _ _ ?_ (by first | exact .inl rfl | exact .inr (by decide)) ?_; (focus (first | (simp [RF, RE, RD, RC, hl, hW, hWl, g1, g2, g3, h0, h2, Sm.cs, c1, q1, c2, q2, c3, q3, c4, q4, c5, q5, c6, q6, q7, hn]; done) | (simp [RF, RE, RD, RC, hl, hW, hWl, g1, g2, g3, h0, h2, Sm.cs, c1, q1, c2, q2, c3, q3, c4, q4, c5, q5, c6, q6, q7, hn]; omega))); clear hA hB A B))
        | refine WP.sr fun k hk => ?_ | refine WP.r fun k hk => ?_
        | refine WP.sd _ rfl fun k hk => ?_ | refine WP.d _ rfl fun k hk => ?_
        | (refine WP.cc fun A B hA hB => ?_; simp [RF, RE, RD, RC, hl, hW, hWl, g1, g2, g3, h0, h2, Sm.cs, c1, q1, c2, q2, c3, q3, c4, q4, c5, q5, c6, q6, q7, hn, onB_t, onB_f]; first | (refine hA ?_; clear hA hB A B) | (refine hB ?_; clear hA hB A B) | (refine onB_if (fun h => hA ?_) (fun h => hB ?_) <;> clear hA hB A B))
        | refine WP.q ?_ | refine WP.b ?_)
      simp [guessW, h0, h2, Sm.cs, c1, c2, c3, c4, c5, c6, h5, hn]
theorem ft_Line1 (x y z o : Str) (n a b : Int) (hx : x.length ≤ 1000) (hy : y.length ≤ 1000) (hz : z.length ≤ 1000) (ho : o.length ≤ 1000) (hn : i64ok n = true) (ha : i64ok a = true) (hb : i64ok b = true) : FT (env K gw) NoW 28 [.agg (Sm.mk 1 x y z o n a b).cs] s (.str (lineS ⟨1, x, y, z, o, n, a, b⟩)) s := by
  have h1 := itoa_le hn
  have h2 := itoa_le ha
  have h3 := itoa_le hb
  refine FT.pure (fn := Tryd.f28) RF_ok mixed Tryd.func28 (by kernel_rfl) (by rfl) rfl rfl (by simp) rfl fun μ w => ?_
  repeat' (first
    | refine WP.t ?_ | refine WP.k ?_ | refine WP.e ?_ | refine Qn ?_ | refine Qr ?_ | refine Qe ?_ | refine Bn ?_ | refine Br ?_ | refine Be ?_ | refine Bx (by decide) ?_
    | (refine RS.nl ?_; refine hk _ _ ?_; clear hk k)
    | (refine RS.st fun A B hA hB => ?_; simp [RF, RE, RD, RC, RB, Sm.cs, hn, ha, hb, onW_t, onW_f, onV_s]; first | (refine hA _ _ _ ?_ ?_; (focus (first | (simp [RF, RE, RD, RC, RB, Sm.cs, hn, ha, hb]; done) | (simp [RF, RE, RD, RC, RB, Sm.cs, hn, ha, hb]; omega))); clear hA hB A B) | (refine hB ?_; clear hA hB A B) | (refine onV_if ?_ ?_; (focus (first | omega | (refine ⟨?_, ?_⟩ <;> omega))); simp only [onV_s]; refine hA _ _ _ ?_ ?_; (focus (first | (simp [RF, RE, RD, RC, RB, Sm.cs, hn, ha, hb]; done) | (simp [RF, RE, RD, RC, RB, Sm.cs, hn, ha, hb]; omega))); clear hA hB A B))
    | (refine RQ.nl ?_; refine hk _ _ ?_; clear hk k)
    | (refine RQ.st fun A B hA hB => ?_; simp [RF, RE, RD, RC, RB, Sm.cs, hn, ha, hb, onW_t, onW_f, onV_s]; first | (refine hA _ _ _ ?_ (by first | exact .inl rfl | exact .inr (by decide)) ?_; (focus (first | (simp [RF, RE, RD, RC, RB, Sm.cs, hn, ha, hb]; done) | (simp [RF, RE, RD, RC, RB, Sm.cs, hn, ha, hb]; omega))); clear hA hB A B) | (refine hB ?_; clear hA hB A B) | (refine onV_if ?_ ?_; (focus (first | omega | (refine ⟨?_, ?_⟩ <;> omega))); simp only [onV_s]; refine hA _ _ _ ?_ (by first | exact .inl rfl | exact .inr (by decide)) ?_; (focus (first | (simp [RF, RE, RD, RC, RB, Sm.cs, hn, ha, hb]; done) | (simp [RF, RE, RD, RC, RB, Sm.cs, hn, ha, hb]; omega))); clear hA hB A B))
    | refine WP.sr fun k hk => ?_ | refine WP.r fun k hk => ?_
    | refine WP.sd _ rfl fun k hk => ?_ | refine WP.d _ rfl fun k hk => ?_
    | (refine WP.cc fun A B hA hB => ?_; simp [RF, RE, RD, RC, RB, Sm.cs, hn, ha, hb, onB_t, onB_f]; first | (refine hA ?_; clear hA hB A B) | (refine hB ?_; clear hA hB A B) | (refine onB_if (fun h => hA ?_) (fun h => hB ?_) <;> clear hA hB A B))
    | refine WP.q ?_ | refine WP.b ?_)
  simp [lineS, wordsL, join_cc, Lib.join_one]
theorem ft_Line2 (x y z o : Str) (n a b : Int) (hx : x.length ≤ 1000) (hy : y.length ≤ 1000) (hz : z.length ≤ 1000) (ho : o.length ≤ 1000) (hn : i64ok n = true) (ha : i64ok a = true) (hb : i64ok b = true) : FT (env K gw) NoW 28 [.agg (Sm.mk 2 x y z o n a b).cs] s (.str (lineS ⟨2, x, y, z, o, n, a, b⟩)) s := by
  have h1 := itoa_le hn
  have h2 := itoa_le ha
  have h3 := itoa_le hb
  refine FT.pure (fn := Tryd.f28) RF_ok mixed Tryd.func28 (by kernel_rfl) (by rfl) rfl rfl (by simp) rfl fun μ w => ?_
  repeat' (first
    | refine WP.t ?_ | refine WP.k ?_ | refine WP.e ?_ | refine Qn ?_ | refine Qr ?_ | refine Qe ?_ | refine Bn ?_ | refine Br ?_ | refine Be ?_ | refine Bx (by decide) ?_
    | (refine RS.nl ?_; refine hk _ _ ?_; clear hk k)
    | (refine RS.st fun A B hA hB => ?_; simp [RF, RE, RD, RC, RB, Sm.cs, hn, ha, hb, onW_t, onW_f, onV_s]; first | (refine hA _ _ _ ?_ ?_; (focus (first | (simp [RF, RE, RD, RC, RB, Sm.cs, hn, ha, hb]; done) | (simp [RF, RE, RD, RC, RB, Sm.cs, hn, ha, hb]; omega))); clear hA hB A B) | (refine hB ?_; clear hA hB A B) | (refine onV_if ?_ ?_; (focus (first | omega | (refine ⟨?_, ?_⟩ <;> omega))); simp only [onV_s]; refine hA _ _ _ ?_ ?_; (focus (first | (simp [RF, RE, RD, RC, RB, Sm.cs, hn, ha, hb]; done) | (simp [RF, RE, RD, RC, RB, Sm.cs, hn, ha, hb]; omega))); clear hA hB A B))
    | (refine RQ.nl ?_; refine hk _ _ ?_; clear hk k)
    | (refine RQ.st fun A B hA hB => ?_; simp [RF, RE, RD, RC, RB, Sm.cs, hn, ha, hb, onW_t, onW_f, onV_s]; first | (refine hA _ _ _ ?_ (by first | exact .inl rfl | exact .inr (by decide)) ?_; (focus (first | (simp [RF, RE, RD, RC, RB, Sm.cs, hn, ha, hb]; done) | (simp [RF, RE, RD, RC, RB, Sm.cs, hn, ha, hb]; omega))); clear hA hB A B) | (refine hB ?_; clear hA hB A B) | (refine onV_if ?_ ?_; (focus (first | omega | (refine ⟨?_, ?_⟩ <;> omega))); simp only [onV_s]; refine hA _ _ _ ?_ (by first | exact .inl rfl | exact .inr (by decide)) ?_; (focus (first | (simp [RF, RE, RD, RC, RB, Sm.cs, hn, ha, hb]; done) | (simp [RF, RE, RD, RC, RB, Sm.cs, hn, ha, hb]; omega))); clear hA hB A B))
    | refine WP.sr fun k hk => ?_ | refine WP.r fun k hk => ?_
    | refine WP.sd _ rfl fun k hk => ?_ | refine WP.d _ rfl fun k hk => ?_
    | (refine WP.cc fun A B hA hB => ?_; simp [RF, RE, RD, RC, RB, Sm.cs, hn, ha, hb, onB_t, onB_f]; first | (refine hA ?_; clear hA hB A B) | (refine hB ?_; clear hA hB A B) | (refine onB_if (fun h => hA ?_) (fun h => hB ?_) <;> clear hA hB A B))
    | refine WP.q ?_ | refine WP.b ?_)
  simp [lineS, wordsL, join_cc, Lib.join_one]
theorem ft_Line3 (x y z o : Str) (n a b : Int) (hx : x.length ≤ 1000) (hy : y.length ≤ 1000) (hz : z.length ≤ 1000) (ho : o.length ≤ 1000) (hn : i64ok n = true) (ha : i64ok a = true) (hb : i64ok b = true) : FT (env K gw) NoW 28 [.agg (Sm.mk 3 x y z o n a b).cs] s (.str (lineS ⟨3, x, y, z, o, n, a, b⟩)) s := by
  have h1 := itoa_le hn
  have h2 := itoa_le ha
  have h3 := itoa_le hb
  refine FT.pure (fn := Tryd.f28) RF_ok mixed Tryd.func28 (by kernel_rfl) (by rfl) rfl rfl (by simp) rfl fun μ w => ?_
  repeat' (first
    | refine WP.t ?_ | refine WP.k ?_ | refine WP.e ?_ | refine Qn ?_ | refine Qr ?_ | refine Qe ?_ | refine Bn ?_ | refine Br ?_ | refine Be ?_ | refine Bx (by decide) ?_
    | (refine RS.nl ?_; refine hk _ _ ?_; clear hk k)
    | (refine RS.st fun A B hA hB => ?_; simp [RF, RE, RD, RC, RB, Sm.cs, hn, ha, hb, onW_t, onW_f, onV_s]; first | (refine hA _ _ _ ?_ ?_; (focus (first | (simp [RF, RE, RD, RC, RB, Sm.cs, hn, ha, hb]; done) | (simp [RF, RE, RD, RC, RB, Sm.cs, hn, ha, hb]; omega))); clear hA hB A B) | (refine hB ?_; clear hA hB A B) | (refine onV_if ?_ ?_; (focus (first | omega | (refine ⟨?_, ?_⟩ <;> omega))); simp only [onV_s]; refine hA _ _ _ ?_ ?_; (focus (first | (simp [RF, RE, RD, RC, RB, Sm.cs, hn, ha, hb]; done) | (simp [RF, RE, RD, RC, RB, Sm.cs, hn, ha, hb]; omega))); clear hA hB A B))
    | (refine RQ.nl ?_; refine hk _ _ ?_; clear hk k)
    | (refine RQ.st fun A B hA hB => ?_; simp [RF, RE, RD, RC, RB, Sm.cs, hn, ha, hb, onW_t, onW_f, onV_s]; first | (refine hA _ _ _ ?_ (by first | exact .inl rfl | exact .inr (by decide)) ?_; (focus (first | (simp [RF, RE, RD, RC, RB, Sm.cs, hn, ha, hb]; done) | (simp [RF, RE, RD, RC, RB, Sm.cs, hn, ha, hb]; omega))); clear hA hB A B) | (refine hB ?_; clear hA hB A B) | (refine onV_if ?_ ?_; (focus (first | omega | (refine ⟨?_, ?_⟩ <;> omega))); simp only [onV_s]; refine hA _ _ _ ?_ (by first | exact .inl rfl | exact .inr (by decide)) ?_; (focus (first | (simp [RF, RE, RD, RC, RB, Sm.cs, hn, ha, hb]; done) | (simp [RF, RE, RD, RC, RB, Sm.cs, hn, ha, hb]; omega))); clear hA hB A B))
    | refine WP.sr fun k hk => ?_ | refine WP.r fun k hk => ?_
    | refine WP.sd _ rfl fun k hk => ?_ | refine WP.d _ rfl fun k hk => ?_
    | (refine WP.cc fun A B hA hB => ?_; simp [RF, RE, RD, RC, RB, Sm.cs, hn, ha, hb, onB_t, onB_f]; first | (refine hA ?_; clear hA hB A B) | (refine hB ?_; clear hA hB A B) | (refine onB_if (fun h => hA ?_) (fun h => hB ?_) <;> clear hA hB A B))
    | refine WP.q ?_ | refine WP.b ?_)
  simp [lineS, wordsL, join_cc, Lib.join_one]
theorem ft_Line4 (x y z o : Str) (n a b : Int) (hx : x.length ≤ 1000) (hy : y.length ≤ 1000) (hz : z.length ≤ 1000) (ho : o.length ≤ 1000) (hn : i64ok n = true) (ha : i64ok a = true) (hb : i64ok b = true) : FT (env K gw) NoW 28 [.agg (Sm.mk 4 x y z o n a b).cs] s (.str (lineS ⟨4, x, y, z, o, n, a, b⟩)) s := by
  have h1 := itoa_le hn
  have h2 := itoa_le ha
  have h3 := itoa_le hb
  refine FT.pure (fn := Tryd.f28) RF_ok mixed Tryd.func28 (by kernel_rfl) (by rfl) rfl rfl (by simp) rfl fun μ w => ?_
  repeat' (first
    | refine WP.t ?_ | refine WP.k ?_ | refine WP.e ?_ | refine Qn ?_ | refine Qr ?_ | refine Qe ?_ | refine Bn ?_ | refine Br ?_ | refine Be ?_ | refine Bx (by decide) ?_
    | (refine RS.nl ?_; refine hk _ _ ?_; clear hk k)
    | (refine RS.st fun A B hA hB => ?_; simp [RF, RE, RD, RC, RB, Sm.cs, hn, ha, hb, onW_t, onW_f, onV_s]; first | (refine hA _ _ _ ?_ ?_; (focus (first | (simp [RF, RE, RD, RC, RB, Sm.cs, hn, ha, hb]; done) | (simp [RF, RE, RD, RC, RB, Sm.cs, hn, ha, hb]; omega))); clear hA hB A B) | (refine hB ?_; clear hA hB A B) | (refine onV_if ?_ ?_; (focus (first | omega | (refine ⟨?_, ?_⟩ <;> omega))); simp only [onV_s]; refine hA _ _ _ ?_ ?_; (focus (first | (simp [RF, RE, RD, RC, RB, Sm.cs, hn, ha, hb]; done) | (simp [RF, RE, RD, RC, RB, Sm.cs, hn, ha, hb]; omega))); clear hA hB A B))
    | (refine RQ.nl ?_; refine hk _ _ ?_; clear hk k)
    | (refine RQ.st fun A B hA hB => ?_; simp [RF, RE, RD, RC, RB, Sm.cs, hn, ha, hb, onW_t, onW_f, onV_s]; first | (refine hA _ _ _ ?_ (by first | exact .inl rfl | exact .inr (by decide)) ?_; (focus (first | (simp [RF, RE, RD, RC, RB, Sm.cs, hn, ha, hb]; done) | (simp [RF, RE, RD, RC, RB, Sm.cs, hn, ha, hb]; omega))); clear hA hB A B) | (refine hB ?_; clear hA hB A B) | (refine onV_if ?_ ?_; (focus (first | omega | (refine ⟨?_, ?_⟩ <;> omega))); simp only [onV_s]; refine hA _ _ _ ?_ (by first | exact .inl rfl | exact .inr (by decide)) ?_; (focus (first | (simp [RF, RE, RD, RC, RB, Sm.cs, hn, ha, hb]; done) | (simp [RF, RE, RD, RC, RB, Sm.cs, hn, ha, hb]; omega))); clear hA hB A B))
    | refine WP.sr fun k hk => ?_ | refine WP.r fun k hk => ?_
    | refine WP.sd _ rfl fun k hk => ?_ | refine WP.d _ rfl fun k hk => ?_
    | (refine WP.cc fun A B hA hB => ?_; simp [RF, RE, RD, RC, RB, Sm.cs, hn, ha, hb, onB_t, onB_f]; first | (refine hA ?_; clear hA hB A B) | (refine hB ?_; clear hA hB A B) | (refine onB_if (fun h => hA ?_) (fun h => hB ?_) <;> clear hA hB A B))
    | refine WP.q ?_ | refine WP.b ?_)
  simp [lineS, wordsL, join_cc, Lib.join_one]
theorem ft_Line5 (x y z o : Str) (n a b : Int) (hx : x.length ≤ 1000) (hy : y.length ≤ 1000) (hz : z.length ≤ 1000) (ho : o.length ≤ 1000) (hn : i64ok n = true) (ha : i64ok a = true) (hb : i64ok b = true) : FT (env K gw) NoW 28 [.agg (Sm.mk 5 x y z o n a b).cs] s (.str (lineS ⟨5, x, y, z, o, n, a, b⟩)) s := by
  have h1 := itoa_le hn
  have h2 := itoa_le ha
  have h3 := itoa_le hb
  refine FT.pure (fn := Tryd.f28) RF_ok mixed Tryd.func28 (by kernel_rfl) (by rfl) rfl rfl (by simp) rfl fun μ w => ?_
  repeat' (first
    | refine WP.t ?_ | refine WP.k ?_ | refine WP.e ?_ | refine Qn ?_ | refine Qr ?_ | refine Qe ?_ | refine Bn ?_ | refine Br ?_ | refine Be ?_ | refine Bx (by decide) ?_
    | (refine RS.nl ?_; refine hk _ _ ?_; clear hk k)
    | (refine RS.st fun A B hA hB => ?_; simp [RF, RE, RD, RC, RB, Sm.cs, hn, ha, hb, onW_t, onW_f, onV_s]; first | (refine hA _ _ _ ?_ ?_; (focus (first | (simp [RF, RE, RD, RC, RB, Sm.cs, hn, ha, hb]; done) | (simp [RF, RE, RD, RC, RB, Sm.cs, hn, ha, hb]; omega))); clear hA hB A B) | (refine hB ?_; clear hA hB A B) | (refine onV_if ?_ ?_; (focus (first | omega | (refine ⟨?_, ?_⟩ <;> omega))); simp only [onV_s]; refine hA _ _ _ ?_ ?_; (focus (first | (simp [RF, RE, RD, RC, RB, Sm.cs, hn, ha, hb]; done) | (simp [RF, RE, RD, RC, RB, Sm.cs, hn, ha, hb]; omega))); clear hA hB A B))
    | (refine RQ.nl ?_; refine hk _ _ ?_; clear hk k)
    | (refine RQ.st fun A B hA hB => ?_; simp [RF, RE, RD, RC, RB, Sm.cs, hn, ha, hb, onW_t, onW_f, onV_s]; first | (refine hA _ _ _ ?_ (by first | exact .inl rfl | exact .inr (by decide)) ?_; (focus (first | (simp [RF, RE, RD, RC, RB, Sm.cs, hn, ha, hb]; done) | (simp [RF, RE, RD, RC, RB, Sm.cs, hn, ha, hb]; omega))); clear hA hB A B) | (refine hB ?_; clear hA hB A B) | (refine onV_if ?_ ?_; (focus (first | omega | (refine ⟨?_, ?_⟩ <;> omega))); simp only [onV_s]; refine hA _ _ _ ?_ (by first | exact .inl rfl | exact .inr (by decide)) ?_; (focus (first | (simp [RF, RE, RD, RC, RB, Sm.cs, hn, ha, hb]; done) | (simp [RF, RE, RD, RC, RB, Sm.cs, hn, ha, hb]; omega))); clear hA hB A B))
    | refine WP.sr fun k hk => ?_ | refine WP.r fun k hk => ?_
    | refine WP.sd _ rfl fun k hk => ?_ | refine WP.d _ rfl fun k hk => ?_
    | (refine WP.cc fun A B hA hB => ?_; simp [RF, RE, RD, RC, RB, Sm.cs, hn, ha, hb, onB_t, onB_f]; first | (refine hA ?_; clear hA hB A B) | (refine hB ?_; clear hA hB A B) | (refine onB_if (fun h => hA ?_) (fun h => hB ?_) <;> clear hA hB A B))
    | refine WP.q ?_ | refine WP.b ?_)
  simp [lineS, wordsL, join_cc, Lib.join_one]
theorem ft_Line6 (x y z o : Str) (n a b : Int) (hx : x.length ≤ 1000) (hy : y.length ≤ 1000) (hz : z.length ≤ 1000) (ho : o.length ≤ 1000) (hn : i64ok n = true) (ha : i64ok a = true) (hb : i64ok b = true) : FT (env K gw) NoW 28 [.agg (Sm.mk 6 x y z o n a b).cs] s (.str (lineS ⟨6, x, y, z, o, n, a, b⟩)) s := by
  have h1 := itoa_le hn
  have h2 := itoa_le ha
  have h3 := itoa_le hb
  refine FT.pure (fn := Tryd.f28) RF_ok mixed Tryd.func28 (by kernel_rfl) (by rfl) rfl rfl (by simp) rfl fun μ w => ?_
  repeat' (first
    | refine WP.t ?_ | refine WP.k ?_ | refine WP.e ?_ | refine Qn ?_ | refine Qr ?_ | refine Qe ?_ | refine Bn ?_ | refine Br ?_ | refine Be ?_ | refine Bx (by decide) ?_
    | (refine RS.nl ?_; refine hk _ _ ?_; clear hk k)
    | (refine RS.st fun A B hA hB => ?_; simp [RF, RE, RD, RC, RB, Sm.cs, hn, ha, hb, onW_t, onW_f, onV_s]; first | (refine hA _ _ _ ?_ ?_; (focus (first | (simp [RF, RE, RD, RC, RB, Sm.cs, hn, ha, hb]; done) | (simp [RF, RE, RD, RC, RB, Sm.cs, hn, ha, hb]; omega))); clear hA hB A B) | (refine hB ?_; clear hA hB A B) | (refine onV_if ?_ ?_; (focus (first | omega | (refine ⟨?_, ?_⟩ <;> omega))); simp only [onV_s]; refine hA _ _ _ ?_ ?_; (focus (first | (simp [RF, RE, RD, RC, RB, Sm.cs, hn, ha, hb]; done) | (simp [RF, RE, RD, RC, RB, Sm.cs, hn, ha, hb]; omega))); clear hA hB A B))
    | (refine RQ.nl ?_; refine hk _ _ ?_; clear hk k)
    | (refine RQ.st fun A B hA hB => ?_; simp [RF, RE, RD, RC, RB, Sm.cs, hn, ha, hb, onW_t, onW_f, onV_s]; first | (refine hA _ _ _ ?_ (by first | exact .inl rfl | exact .inr (by decide)) ?_; (focus (first | (simp [RF, RE, RD, RC, RB, Sm.cs, hn, ha, hb]; done) | (simp [RF, RE, RD, RC, RB, Sm.cs, hn, ha, hb]; omega))); clear hA hB A B) | (refine hB ?_; clear hA hB A B) | (refine onV_if ?_ ?_; (focus (first | omega | (refine ⟨?_, ?_⟩ <;> omega))); simp only [onV_s]; refine hA _ _ _ ?_ (by first | exact .inl rfl | exact .inr (by decide)) ?_; (focus (first | (simp [RF, RE, RD, RC, RB, Sm.cs, hn, ha, hb]; done) | (simp [RF, RE, RD, RC, RB, Sm.cs, hn, ha, hb]; omega))); clear hA hB A B))
    | refine WP.sr fun k hk => ?_ | refine WP.r fun k hk => ?_
    | refine WP.sd _ rfl fun k hk => ?_ | refine WP.d _ rfl fun k hk => ?_
    | (refine WP.cc fun A B hA hB => ?_; simp [RF, RE, RD, RC, RB, Sm.cs, hn, ha, hb, onB_t, onB_f]; first | (refine hA ?_; clear hA hB A B) | (refine hB ?_; clear hA hB A B) | (refine onB_if (fun h => hA ?_) (fun h => hB ?_) <;> clear hA hB A B))
    | refine WP.q ?_ | refine WP.b ?_)
  simp [lineS, wordsL, join_cc, Lib.join_one]
theorem ft_Line7 (x y z o : Str) (n a b : Int) (hx : x.length ≤ 1000) (hy : y.length ≤ 1000) (hz : z.length ≤ 1000) (ho : o.length ≤ 1000) (hn : i64ok n = true) (ha : i64ok a = true) (hb : i64ok b = true) : FT (env K gw) NoW 28 [.agg (Sm.mk 7 x y z o n a b).cs] s (.str (lineS ⟨7, x, y, z, o, n, a, b⟩)) s := by
  have h1 := itoa_le hn
  have h2 := itoa_le ha
  have h3 := itoa_le hb
  have hai := ha
  have hbi := hb
  simp only [i64ok, decide_eq_true_eq] at hai hbi
  have wa : IntKind.i64.wrap a = a := wrap64 (by omega) (by omega)
  have wb : IntKind.i64.wrap b = b := wrap64 (by omega) (by omega)
  refine FT.pure (fn := Tryd.f28) RF_ok mixed Tryd.func28 (by kernel_rfl) (by rfl) rfl rfl (by simp) rfl fun μ w => ?_
  repeat' (first
    | refine WP.t ?_ | refine WP.k ?_ | refine WP.e ?_ | refine Qn ?_ | refine Qr ?_ | refine Qe ?_ | refine Bn ?_ | refine Br ?_ | refine Be ?_ | refine Bx (by decide) ?_
    | (refine RS.nl ?_; refine hk _ _ ?_; clear hk k)
    | (refine RS.st fun A B hA hB => ?_; simp [RF, RE, RD, RC, RB, Sm.cs, hn, ha, hb, wa, wb, onW_t, onW_f, onV_s]; first | (refine hA _ _ _ ?_ ?_; (focus (first | (simp [RF, RE, RD, RC, RB, Sm.cs, hn, ha, hb, wa, wb]; done) | (simp [RF, RE, RD, RC, RB, Sm.cs, hn, ha, hb, wa, wb]; omega))); clear hA hB A B) | (refine hB ?_; clear hA hB A B) | (refine onV_if ?_ ?_; (focus (first | omega | (refine ⟨?_, ?_⟩ <;> omega))); simp only [onV_s]; refine hA _ _ _ ?_ ?_; (focus (first | (simp [RF, RE, RD, RC, RB, Sm.cs, hn, ha, hb, wa, wb]; done) | (simp [RF, RE, RD, RC, RB, Sm.cs, hn, ha, hb, wa, wb]; omega))); clear hA hB A B))
    | (refine RQ.nl ?_; refine hk _ _ ?_; clear hk k)
    | (refine RQ.st fun A B hA hB => ?_; simp [RF, RE, RD, RC, RB, Sm.cs, hn, ha, hb, wa, wb, onW_t, onW_f, onV_s]; first | (refine hA _ _ _ ?_ (by first | exact .inl rfl | exact .inr (by decide)) ?_; (focus (first | (simp [RF, RE, RD, RC, RB, Sm.cs, hn, ha, hb, wa, wb]; done) | (simp [RF, RE, RD, RC, RB, Sm.cs, hn, ha, hb, wa, wb]; omega))); clear hA hB A B) | (refine hB ?_; clear hA hB A B) | (refine onV_if ?_ ?_; (focus (first | omega | (refine ⟨?_, ?_⟩ <;> omega))); simp only [onV_s]; refine hA _ _ _ ?_ (by first | exact .inl rfl | exact .inr (by decide)) ?_; (focus (first | (simp [RF, RE, RD, RC, RB, Sm.cs, hn, ha, hb, wa, wb]; done) | (simp [RF, RE, RD, RC, RB, Sm.cs, hn, ha, hb, wa, wb]; omega))); clear hA hB A B))
    | refine WP.sr fun k hk => ?_ | refine WP.r fun k hk => ?_
    | refine WP.sd _ rfl fun k hk => ?_ | refine WP.d _ rfl fun k hk => ?_
    | (refine WP.cc fun A B hA hB => ?_; simp [RF, RE, RD, RC, RB, Sm.cs, hn, ha, hb, wa, wb, onB_t, onB_f]; first | (refine hA ?_; clear hA hB A B) | (refine hB ?_; clear hA hB A B) | (refine onB_if (fun h => hA ?_) (fun h => hB ?_) <;> clear hA hB A B))
    | refine WP.q ?_ | refine WP.b ?_)
  simp [lineS, wordsL, join_cc, Lib.join_one]
theorem ft_Line8 (x y z o : Str) (n a b : Int) (hx : x.length ≤ 1000) (hy : y.length ≤ 1000) (hz : z.length ≤ 1000) (ho : o.length ≤ 1000) (hn : i64ok n = true) (ha : i64ok a = true) (hb : i64ok b = true) : FT (env K gw) NoW 28 [.agg (Sm.mk 8 x y z o n a b).cs] s (.str (lineS ⟨8, x, y, z, o, n, a, b⟩)) s := by
  have h1 := itoa_le hn
  have h2 := itoa_le ha
  have h3 := itoa_le hb
  have hai := ha
  have hbi := hb
  simp only [i64ok, decide_eq_true_eq] at hai hbi
  have wa : IntKind.i64.wrap a = a := wrap64 (by omega) (by omega)
  have wb : IntKind.i64.wrap b = b := wrap64 (by omega) (by omega)
  refine FT.pure (fn := Tryd.f28) RF_ok mixed Tryd.func28 (by kernel_rfl) (by rfl) rfl rfl (by simp) rfl fun μ w => ?_
  repeat' (first
    | refine WP.t ?_ | refine WP.k ?_ | refine WP.e ?_ | refine Qn ?_ | refine Qr ?_ | refine Qe ?_ | refine Bn ?_ | refine Br ?_ | refine Be ?_ | refine Bx (by decide) ?_
    | (refine RS.nl ?_; refine hk _ _ ?_; clear hk k)
    | (refine RS.st fun A B hA hB => ?_; simp [RF, RE, RD, RC, RB, Sm.cs, hn, ha, hb, wa, wb, onW_t, onW_f, onV_s]; first | (refine hA _ _ _ ?_ ?_; (focus (first | (simp [RF, RE, RD, RC, RB, Sm.cs, hn, ha, hb, wa, wb]; done) | (simp [RF, RE, RD, RC, RB, Sm.cs, hn, ha, hb, wa, wb]; omega))); clear hA hB A B) | (refine hB ?_; clear hA hB A B) | (refine onV_if ?_ ?_; (focus (first | omega | (refine ⟨?_, ?_⟩ <;> omega))); simp only [onV_s]; refine hA _ _ _ ?_ ?_; (focus (first | (simp [RF, RE, RD, RC, RB, Sm.cs, hn, ha, hb, wa, wb]; done) | (simp [RF, RE, RD, RC, RB, Sm.cs, hn, ha, hb, wa, wb]; omega))); clear hA hB A B))
    | (refine RQ.nl ?_; refine hk _ _ ?_; clear hk k)
    | (refine RQ.st fun A B hA hB => ?_; simp [RF, RE, RD, RC, RB, Sm.cs, hn, ha, hb, wa, wb, onW_t, onW_f, onV_s]; first | (refine hA _ _ _ ?_ (by first | exact .inl rfl | exact .inr (by decide)) ?_; (focus (first | (simp [RF, RE, RD, RC, RB, Sm.cs, hn, ha, hb, wa, wb]; done) | (simp [RF, RE, RD, RC, RB, Sm.cs, hn, ha, hb, wa, wb]; omega))); clear hA hB A B) | (refine hB ?_; clear hA hB A B) | (refine onV_if ?_ ?_; (focus (first | omega | (refine ⟨?_, ?_⟩ <;> omega))); simp only [onV_s]; refine hA _ _ _ ?_ (by first | exact .inl rfl | exact .inr (by decide)) ?_; (focus (first | (simp [RF, RE, RD, RC, RB, Sm.cs, hn, ha, hb, wa, wb]; done) | (simp [RF, RE, RD, RC, RB, Sm.cs, hn, ha, hb, wa, wb]; omega))); clear hA hB A B))
    | refine WP.sr fun k hk => ?_ | refine WP.r fun k hk => ?_
    | refine WP.sd _ rfl fun k hk => ?_ | refine WP.d _ rfl fun k hk => ?_
    | (refine WP.cc fun A B hA hB => ?_; simp [RF, RE, RD, RC, RB, Sm.cs, hn, ha, hb, wa, wb, onB_t, onB_f]; first | (refine hA ?_; clear hA hB A B) | (refine hB ?_; clear hA hB A B) | (refine onB_if (fun h => hA ?_) (fun h => hB ?_) <;> clear hA hB A B))
    | refine WP.q ?_ | refine WP.b ?_)
  simp [lineS, wordsL, join_cc, Lib.join_one]
theorem ft_Line (m : Sm) (hm : okW m = true) : FT (env K gw) NoW 28 [.agg m.cs] s (.str (lineS m)) s := by
  simp only [okW, Bool.and_eq_true, decide_eq_true_eq] at hm
  obtain ⟨⟨⟨⟨⟨⟨hx, hy⟩, hz⟩, ho⟩, hn⟩, ha⟩, hb⟩ := hm
  obtain ⟨k, x, y, z, o, n, a, b⟩ := m
  simp only at hx hy hz ho hn ha hb
  by_cases h1 : k = 1
  · subst h1; exact ft_Line1 x y z o n a b hx hy hz ho hn ha hb
  have q1 : (k == 1) = false := by simpa using h1
  by_cases h2 : k = 2
  · subst h2; exact ft_Line2 x y z o n a b hx hy hz ho hn ha hb
  have q2 : (k == 2) = false := by simpa using h2
  by_cases h3 : k = 3
  · subst h3; exact ft_Line3 x y z o n a b hx hy hz ho hn ha hb
  have q3 : (k == 3) = false := by simpa using h3
  by_cases h4 : k = 4
  · subst h4; exact ft_Line4 x y z o n a b hx hy hz ho hn ha hb
  have q4 : (k == 4) = false := by simpa using h4
  by_cases h5 : k = 5
  · subst h5; exact ft_Line5 x y z o n a b hx hy hz ho hn ha hb
  have q5 : (k == 5) = false := by simpa using h5
  by_cases h6 : k = 6
  · subst h6; exact ft_Line6 x y z o n a b hx hy hz ho hn ha hb
  have q6 : (k == 6) = false := by simpa using h6
  by_cases h7 : k = 7
  · subst h7; exact ft_Line7 x y z o n a b hx hy hz ho hn ha hb
  have q7 : (k == 7) = false := by simpa using h7
  by_cases h8 : k = 8
  · subst h8; exact ft_Line8 x y z o n a b hx hy hz ho hn ha hb
  have q8 : (k == 8) = false := by simpa using h8
  refine FT.pure (fn := Tryd.f28) RF_ok mixed Tryd.func28 (by kernel_rfl) (by rfl) rfl rfl (by simp) rfl fun μ w => ?_
  repeat' (first
    | refine WP.t ?_ | refine WP.k ?_ | refine WP.e ?_ | refine Qn ?_ | refine Qr ?_ | refine Qe ?_ | refine Bn ?_ | refine Br ?_ | refine Be ?_ | refine Bx (by decide) ?_
    | (refine RS.nl ?_; refine hk _ _ ?_; clear hk k)
    | (refine RS.st fun A B hA hB => ?_; simp [Sm.cs, q1, q2, q3, q4, q5, q6, q7, q8, onW_t, onW_f, onV_s]; first | (refine hA _ _ _ ?_ ?_; (focus (first | (simp [Sm.cs, q1, q2, q3, q4, q5, q6, q7, q8]; done) | (simp [Sm.cs, q1, q2, q3, q4, q5, q6, q7, q8]; omega))); clear hA hB A B) | (refine hB ?_; clear hA hB A B) | (refine onV_if ?_ ?_; (focus (first | omega | (refine ⟨?_, ?_⟩ <;> omega))); simp only [onV_s]; refine hA _ _ _ ?_ ?_; (focus (first | (simp [Sm.cs, q1, q2, q3, q4, q5, q6, q7, q8]; done) | (simp [Sm.cs, q1, q2, q3, q4, q5, q6, q7, q8]; omega))); clear hA hB A B))
    | (refine RQ.nl ?_; refine hk _ _ ?_; clear hk k)
    | (refine RQ.st fun A B hA hB => ?_; simp [Sm.cs, q1, q2, q3, q4, q5, q6, q7, q8, onW_t, onW_f, onV_s]; first | (refine hA _ _ _ ?_ (by first | exact .inl rfl | exact .inr (by decide)) ?_; (focus (first | (simp [Sm.cs, q1, q2, q3, q4, q5, q6, q7, q8]; done) | (simp [Sm.cs, q1, q2, q3, q4, q5, q6, q7, q8]; omega))); clear hA hB A B) | (refine hB ?_; clear hA hB A B) | (refine onV_if ?_ ?_; (focus (first | omega | (refine ⟨?_, ?_⟩ <;> omega))); simp only [onV_s]; refine hA _ _ _ ?_ (by first | exact .inl rfl | exact .inr (by decide)) ?_; (focus (first | (simp [Sm.cs, q1, q2, q3, q4, q5, q6, q7, q8]; done) | (simp [Sm.cs, q1, q2, q3, q4, q5, q6, q7, q8]; omega))); clear hA hB A B))
    | refine WP.sr fun k hk => ?_ | refine WP.r fun k hk => ?_
    | refine WP.sd _ rfl fun k hk => ?_ | refine WP.d _ rfl fun k hk => ?_
    | (refine WP.cc fun A B hA hB => ?_; simp [Sm.cs, q1, q2, q3, q4, q5, q6, q7, q8, onB_t, onB_f]; first | (refine hA ?_; clear hA hB A B) | (refine hB ?_; clear hA hB A B) | (refine onB_if (fun h => hA ?_) (fun h => hB ?_) <;> clear hA hB A B))
    | refine WP.q ?_ | refine WP.b ?_)
  simp [lineS, wordsL, Lib.join_one, h1, h2, h3, h4, h5, h6, h7, h8]
def RG : Fns := (RF.a1 27 vStr fun x => if x.length ≤ 100000 then some (.agg (guessW (splitC 32 0 x)).cs) else none).a1 28 (vAgg cSm) fun m => if okW m = true then some (.str (lineS m)) else none
theorem RG_ok : FOk (env K gw) RG := by
  refine (RF_ok.a1 ?_).a1 ?_
  · intro x s r h; split at h <;> cases h; exact ft_guess x ‹_›
  · intro m s r h; split at h <;> cases h; exact ft_Line m ‹_›
theorem ft_TextR (l : List Sm) (hl : l.length < LIM) (hok : ∀ m ∈ l, okS m = true) (hoi : ∀ m ∈ l, okI m = true) : FT (env K gw) NoW 19 [.sl (l.map Sm.cs)] s (.tup [.str (textS l).1, .int .i64 (textS l).2]) s := by
  refine FT.pure (fn := Tryd.f19) RG_ok mixed Tryd.func19 (by kernel_rfl) (by rfl) rfl rfl (by simp) rfl fun μ w => ?_
  by_cases h200 : 200 < l.length
  · have h' : (200 : Int) < (l.length : Int) := by omega
    repeat' (first
      | refine WP.t ?_ | refine WP.k ?_ | refine WP.e ?_ | refine Qn ?_ | refine Qr ?_ | refine Qe ?_ | refine Bn ?_ | refine Br ?_ | refine Be ?_ | refine Bx (by decide) ?_
      | (refine RS.nl ?_; refine hk _ _ ?_; clear hk k)
      | (refine RS.st fun A B hA hB => ?_; simp [h', h200, onW_t, onW_f, onV_s]; first | (refine hA _ _ _ ?_ ?_; (focus (first | (simp [h', h200]; done) | (simp [h', h200]; omega))); clear hA hB A B) | (refine hB ?_; clear hA hB A B) | (refine onV_if ?_ ?_; (focus (first | omega | (refine ⟨?_, ?_⟩ <;> omega))); simp only [onV_s]; refine hA _ _ _ ?_ ?_; (focus (first | (simp [h', h200]; done) | (simp [h', h200]; omega))); clear hA hB A B))
      | (refine RQ.nl ?_; refine hk _ _ ?_; clear hk k)
      | (refine RQ.st fun A B hA hB => ?_; simp [h', h200, onW_t, onW_f, onV_s]; first | (refine hA _ _ _ ?_ (by first | exact .inl rfl | exact .inr (by decide)) ?_; (focus (first | (simp [h', h200]; done) | (simp [h', h200]; omega))); clear hA hB A B) | (refine hB ?_; clear hA hB A B) | (refine onV_if ?_ ?_; (focus (first | omega | (refine ⟨?_, ?_⟩ <;> omega))); simp only [onV_s]; refine hA _ _ _ ?_ (by first | exact .inl rfl | exact .inr (by decide)) ?_; (focus (first | (simp [h', h200]; done) | (simp [h', h200]; omega))); clear hA hB A B))
      | refine WP.sr fun k hk => ?_ | refine WP.r fun k hk => ?_
      | refine WP.sd _ rfl fun k hk => ?_ | refine WP.d _ rfl fun k hk => ?_
      | (refine WP.cc fun A B hA hB => ?_; simp [h', h200, onB_t, onB_f]; first | (refine hA ?_; clear hA hB A B) | (refine hB ?_; clear hA hB A B) | (refine onB_if (fun h => hA ?_) (fun h => hB ?_) <;> clear hA hB A B))
      | refine WP.q ?_ | refine WP.b ?_)
    simp [textS, h200]
  have h' : ¬ (200 : Int) < (l.length : Int) := by omega
  repeat' (first
    | refine WP.t ?_ | refine WP.k ?_ | refine WP.e ?_ | refine Qn ?_ | refine Qr ?_ | refine Qe ?_ | refine Bn ?_ | refine Br ?_ | refine Be ?_ | refine Bx (by decide) ?_
    | (refine RS.nl ?_; refine hk _ _ ?_; clear hk k)
    | (refine RS.st fun A B hA hB => ?_; simp [h', h200, onW_t, onW_f, onV_s]; first | (refine hA _ _ _ ?_ ?_; (focus (first | (simp [h', h200]; done) | (simp [h', h200]; omega))); clear hA hB A B) | (refine hB ?_; clear hA hB A B) | (refine onV_if ?_ ?_; (focus (first | omega | (refine ⟨?_, ?_⟩ <;> omega))); simp only [onV_s]; refine hA _ _ _ ?_ ?_; (focus (first | (simp [h', h200]; done) | (simp [h', h200]; omega))); clear hA hB A B))
    | (refine RQ.nl ?_; refine hk _ _ ?_; clear hk k)
    | (refine RQ.st fun A B hA hB => ?_; simp [h', h200, onW_t, onW_f, onV_s]; first | (refine hA _ _ _ ?_ (by first | exact .inl rfl | exact .inr (by decide)) ?_; (focus (first | (simp [h', h200]; done) | (simp [h', h200]; omega))); clear hA hB A B) | (refine hB ?_; clear hA hB A B) | (refine onV_if ?_ ?_; (focus (first | omega | (refine ⟨?_, ?_⟩ <;> omega))); simp only [onV_s]; refine hA _ _ _ ?_ (by first | exact .inl rfl | exact .inr (by decide)) ?_; (focus (first | (simp [h', h200]; done) | (simp [h', h200]; omega))); clear hA hB A B))
    | refine WP.sr fun k hk => ?_ | refine WP.r fun k hk => ?_
    | refine WP.sd _ rfl fun k hk => ?_ | refine WP.d _ rfl fun k hk => ?_
    | (refine WP.cc fun A B hA hB => ?_; simp [h', h200, onB_t, onB_f]; first | (refine hA ?_; clear hA hB A B) | (refine hB ?_; clear hA hB A B) | (refine onB_if (fun h => hA ?_) (fun h => hB ?_) <;> clear hA hB A B))
    | refine WP.q ?_ | refine WP.b ?_)
  refine WP_loopS (fun i : Nat => [(0, .sl (l.map Sm.cs)), (4, .str (textL (l.take i))), (5, .int .i64 i)]) (fun i s' => i ≤ l.length ∧ s' = s ∧ (l.take i).all mayB = true) (fun i => l.length - i) 0 (by simp [textL]) ⟨by omega, rfl, by simp⟩ ?_
  rintro i _ ⟨hi, rfl, hall⟩
  by_cases hi2 : i < l.length
  · have hx : l[i]? = some l[i] := List.getElem?_eq_getElem hi2
    have hm := hok l[i] (List.getElem_mem hi2)
    have hmi := hoi l[i] (List.getElem_mem hi2)
    have hmem : l[i] ∈ l := List.getElem_mem hi2
    have htk : l.take (i + 1) = l.take i ++ [l[i]] := List.take_succ_eq_append_getElem hi2
    have hw := wrap_succ hi2 hl
    have hlen : (textL (l.take i)).length ≤ 201 * i := by
      refine Nat.le_trans (textL_le (fun m hm => List.all_eq_true.1 hall m hm) fun m hm => hoi m (List.mem_of_mem_take hm)) ?_
      rw [List.length_take]; omega
    generalize hv : l[i] = m at *
    have hcs : m.cs = [.int .i64 m.k, .str m.x, .str m.y, .str m.z, .str m.o, .int .i64 m.n, .int .i64 m.a, .int .i64 m.b] := rfl
    have heta : Sm.mk m.k m.x m.y m.z m.o m.n m.a m.b = m := rfl
    cases hmay : mayB m
    · skip
      repeat' (first
        | refine WP.t ?_ | refine WP.k ?_ | refine WP.e ?_ | refine Qn ?_ | refine Qr ?_ | refine Qe ?_ | refine Bn ?_ | refine Br ?_ | refine Be ?_ | refine Bx (by decide) ?_
        | (refine RS.nl ?_; refine hk _ _ ?_; clear hk k)
        | (refine RS.st fun A B hA hB => ?_; simp [RG, RF, RE, RD, hi2, hx, hv, hm, hcs, heta, hmay, onW_t, onW_f, onV_s]; first | (refine hA _ _ _ ?_ ?_; (focus (first | (simp [RG, RF, RE, RD, hi2, hx, hv, hm, hcs, heta, hmay]; done) | (simp [RG, RF, RE, RD, hi2, hx, hv, hm, hcs, heta, hmay]; omega))); clear hA hB A B) | (refine hB ?_; clear hA hB A B) | (refine onV_if ?_ ?_; (focus (first | omega | (refine ⟨?_, ?_⟩ <;> omega))); simp only [onV_s]; refine hA _ _ _ ?_ ?_; (focus (first | (simp [RG, RF, RE, RD, hi2, hx, hv, hm, hcs, heta, hmay]; done) | (simp [RG, RF, RE, RD, hi2, hx, hv, hm, hcs, heta, hmay]; omega))); clear hA hB A B))
        | (refine RQ.nl ?_; refine hk _ _ ?_; clear hk k)
        | (refine RQ.st fun A B hA hB => ?_; simp [RG, RF, RE, RD, hi2, hx, hv, hm, hcs, heta, hmay, onW_t, onW_f, onV_s]; first | (refine hA _ _ _ ?_ (by first | exact .inl rfl | exact .inr (by decide)) ?_; (focus (first | (simp [RG, RF, RE, RD, hi2, hx, hv, hm, hcs, heta, hmay]; done) | (simp [RG, RF, RE, RD, hi2, hx, hv, hm, hcs, heta, hmay]; omega))); clear hA hB A B) | (refine hB ?_; clear hA hB A B) | (refine onV_if ?_ ?_; (focus (first | omega | (refine ⟨?_, ?_⟩ <;> omega))); simp only [onV_s]; refine hA _ _ _ ?_ (by first | exact .inl rfl | exact .inr (by decide)) ?_; (focus (first | (simp [RG, RF, RE, RD, hi2, hx, hv, hm, hcs, heta, hmay]; done) | (simp [RG, RF, RE, RD, hi2, hx, hv, hm, hcs, heta, hmay]; omega))); clear hA hB A B))
        | refine WP.sr fun k hk => ?_ | refine WP.r fun k hk => ?_
        | refine WP.sd _ rfl fun k hk => ?_ | refine WP.d _ rfl fun k hk => ?_
        | (refine WP.cc fun A B hA hB => ?_; simp [RG, RF, RE, RD, hi2, hx, hv, hm, hcs, heta, hmay, onB_t, onB_f]; first | (refine hA ?_; clear hA hB A B) | (refine hB ?_; clear hA hB A B) | (refine onB_if (fun h => hA ?_) (fun h => hB ?_) <;> clear hA hB A B))
        | refine WP.q ?_ | refine WP.b ?_)
      have : l.all mayB = false := List.all_eq_false.2 ⟨m, hmem, by simp [hmay]⟩
      simp [textS, h200, this]
    · have hokw := okW_of (may_short hmay) hmi
      have hll := line_le (may_short hmay) hmi
      have et : textL (l.take (i + 1)) = textL (l.take i) ++ lineS m ++ [10] := by rw [htk, textL_app]; simp [textL]
      have hall2 : (l.take (i + 1)).all mayB = true := by rw [htk, List.all_append, hall]; simp [hmay]
      generalize hY : textL (l.take i) = Y at *
      generalize hL : lineS m = L at *
      repeat' (first
        | refine WP.t ?_ | refine WP.k ?_ | refine WP.e ?_ | refine Qn ?_ | refine Qr ?_ | refine Qe ?_ | refine Bn ?_ | refine Br ?_ | refine Be ?_ | refine Bx (by decide) ?_
        | (refine RS.nl ?_; refine hk _ _ ?_; clear hk k)
        | (refine RS.st fun A B hA hB => ?_; simp [RG, RF, RE, RD, hi2, hx, hv, hm, hcs, heta, hmay, hokw, hL, hw, onW_t, onW_f, onV_s]; first | (refine hA _ _ _ ?_ ?_; (focus (first | (simp [RG, RF, RE, RD, hi2, hx, hv, hm, hcs, heta, hmay, hokw, hL, hw]; done) | (simp [RG, RF, RE, RD, hi2, hx, hv, hm, hcs, heta, hmay, hokw, hL, hw]; omega))); clear hA hB A B) | (refine hB ?_; clear hA hB A B) | (refine onV_if ?_ ?_; (focus (first | omega | (refine ⟨?_, ?_⟩ <;> omega))); simp only [onV_s]; refine hA _ _ _ ?_ ?_; (focus (first | (simp [RG, RF, RE, RD, hi2, hx, hv, hm, hcs, heta, hmay, hokw, hL, hw]; done) | (simp [RG, RF, RE, RD, hi2, hx, hv, hm, hcs, heta, hmay, hokw, hL, hw]; omega))); clear hA hB A B))
        | (refine RQ.nl ?_; refine hk _ _ ?_; clear hk k)
        | (refine RQ.st fun A B hA hB => ?_; simp [RG, RF, RE, RD, hi2, hx, hv, hm, hcs, heta, hmay, hokw, hL, hw, onW_t, onW_f, onV_s]; first | (refine hA _ _ _ ?_ (by first | exact .inl rfl | exact .inr (by decide)) ?_; (focus (first | (simp [RG, RF, RE, RD, hi2, hx, hv, hm, hcs, heta, hmay, hokw, hL, hw]; done) | (simp [RG, RF, RE, RD, hi2, hx, hv, hm, hcs, heta, hmay, hokw, hL, hw]; omega))); clear hA hB A B) | (refine hB ?_; clear hA hB A B) | (refine onV_if ?_ ?_; (focus (first | omega | (refine ⟨?_, ?_⟩ <;> omega))); simp only [onV_s]; refine hA _ _ _ ?_ (by first | exact .inl rfl | exact .inr (by decide)) ?_; (focus (first | (simp [RG, RF, RE, RD, hi2, hx, hv, hm, hcs, heta, hmay, hokw, hL, hw]; done) | (simp [RG, RF, RE, RD, hi2, hx, hv, hm, hcs, heta, hmay, hokw, hL, hw]; omega))); clear hA hB A B))
        | refine WP.sr fun k hk => ?_ | refine WP.r fun k hk => ?_
        | refine WP.sd _ rfl fun k hk => ?_ | refine WP.d _ rfl fun k hk => ?_
        | (refine WP.cc fun A B hA hB => ?_; simp [RG, RF, RE, RD, hi2, hx, hv, hm, hcs, heta, hmay, hokw, hL, hw, onB_t, onB_f]; first | (refine hA ?_; clear hA hB A B) | (refine hB ?_; clear hA hB A B) | (refine onB_if (fun h => hA ?_) (fun h => hB ?_) <;> clear hA hB A B))
        | refine WP.q ?_ | refine WP.b ?_)
      exact ⟨i + 1, by omega, by simp [et], by omega, rfl, hall2⟩
  · have he : l.take i = l := List.take_of_length_le (by omega)
    rw [he] at hall ⊢
    repeat' (first
      | refine WP.t ?_ | refine WP.k ?_ | refine WP.e ?_ | refine Qn ?_ | refine Qr ?_ | refine Qe ?_ | refine Bn ?_ | refine Br ?_ | refine Be ?_ | refine Bx (by decide) ?_
      | (refine RS.nl ?_; refine hk _ _ ?_; clear hk k)
      | (refine RS.st fun A B hA hB => ?_; simp [hi2, onW_t, onW_f, onV_s]; first | (refine hA _ _ _ ?_ ?_; (focus (first | (simp [hi2]; done) | (simp [hi2]; omega))); clear hA hB A B) | (refine hB ?_; clear hA hB A B) | (refine onV_if ?_ ?_; (focus (first | omega | (refine ⟨?_, ?_⟩ <;> omega))); simp only [onV_s]; refine hA _ _ _ ?_ ?_; (focus (first | (simp [hi2]; done) | (simp [hi2]; omega))); clear hA hB A B))
      | (refine RQ.nl ?_; refine hk _ _ ?_; clear hk k)
      | (refine RQ.st fun A B hA hB => ?_; simp [hi2, onW_t, onW_f, onV_s]; first | (refine hA _ _ _ ?_ (by first | exact .inl rfl | exact .inr (by decide)) ?_; (focus (first | (simp [hi2]; done) | (simp [hi2]; omega))); clear hA hB A B) | (refine hB ?_; clear hA hB A B) | (refine onV_if ?_ ?_; (focus (first | omega | (refine ⟨?_, ?_⟩ <;> omega))); simp only [onV_s]; refine hA _ _ _ ?_ (by first | exact .inl rfl | exact .inr (by decide)) ?_; (focus (first | (simp [hi2]; done) | (simp [hi2]; omega))); clear hA hB A B))
      | refine WP.sr fun k hk => ?_ | refine WP.r fun k hk => ?_
      | refine WP.sd _ rfl fun k hk => ?_ | refine WP.d _ rfl fun k hk => ?_
      | (refine WP.cc fun A B hA hB => ?_; simp [hi2, onB_t, onB_f]; first | (refine hA ?_; clear hA hB A B) | (refine hB ?_; clear hA hB A B) | (refine onB_if (fun h => hA ?_) (fun h => hB ?_) <;> clear hA hB A B))
      | refine WP.q ?_ | refine WP.b ?_)
    simp [textS, h200, hall]
end
end Go.Am
namespace Go.Am
open Go.Proofs Go.Shelf
def gOf (y : Str) : Sm := guessW (splitC 32 0 y)
def goodR (y : Str) : Bool := mayB (gOf y) && (lineS (gOf y) == y)
def parseD (D : List Str) (u : Str) : List Sm × Int × Int :=
  if 200 < D.length + (if u = [] then 0 else 1) then ([], 0, 4) else if D.all goodR then (if u = [] then (D.map gOf, 0, 0) else ([], (D.length : Int), 2)) else ([], ((D.findIdx fun y => !goodR y : Nat) : Int), 2)
theorem numF_ok {a : Int} (h : i64ok a = true) (c : UInt8) : i64ok (numF a c) = true := by
  unfold numF
  split
  · have : ∀ v : Int, -9223372036854775808 ≤ IntKind.i64.wrap v ∧ IntKind.i64.wrap v ≤ 9223372036854775807 := fun v => by
      simp only [IntKind.wrap, IntKind.signed, IntKind.bits]
      simp
      omega
    simp only [i64ok, decide_eq_true_eq]
    exact this _
  · exact h
theorem numA_ok (x : Str) : i64ok (numA x) = true := by
  unfold numA
  split
  · have : ∀ (l : Str) (a : Int), i64ok a = true → i64ok (l.foldl numF a) = true := by
      intro l
      induction l with
      | nil => exact fun a h => h
      | cons c l ih => exact fun a h => ih _ (numF_ok h c)
    exact this x 0 rfl
  · rfl
theorem numR_ok (x : Str) : i64ok (numR x) = true := by
  unfold numR
  split
  · exact numA_ok x
  · have : ∀ v : Int, -9223372036854775808 ≤ IntKind.i64.wrap v ∧ IntKind.i64.wrap v ≤ 9223372036854775807 := fun v => by
      simp only [IntKind.wrap, IntKind.signed, IntKind.bits]
      simp
      omega
    simp only [i64ok, decide_eq_true_eq]
    exact this _
theorem guess_ok {w : List Str} (h : ∀ x ∈ w, x.length ≤ 100000) : okS (guessW w) = true ∧ okI (guessW w) = true := by
  have g0 : (atW w 0).length ≤ 100000 := getD_le h 0
  have g1 : (atW w 1).length ≤ 100000 := getD_le h 1
  have g2 : (atW w 2).length ≤ 100000 := getD_le h 2
  have g3 : (atW w 3).length ≤ 100000 := getD_le h 3
  have g4 : (atW w 4).length ≤ 100000 := getD_le h 4
  have n0 : i64ok 0 = true := rfl
  unfold guessW
  repeat' split
  all_goals
    simp only [okS, okI, Bool.and_eq_true, decide_eq_true_eq, numR_ok, n0, LIM, List.length_nil, and_self, and_true, true_and]
  all_goals first | trivial | omega | (refine ⟨?_, ?_⟩ <;> omega) | skip
section
variable {K : Nat} {gw : World} {s : St}
attribute [local simp] awanted xop zOf zrow aop ev T0 Slots.put Slots.set Slots.get awr WOk AV.may ofConst abinop aint isConst St.get_push St.get_put St.live AV.fit AV.cells AV.one fieldOf afieldAddr aload ofCells astore splice May eqres env_ti FinP FinZ FinW ares aresL ares1 Fns.addP Fns.add Fns.a0 Fns.a1 Fns.a2 Fns.a3 Fns.a4 abuiltin alenOk alen aindex elemOfT elemId abuildSlice afill chunks ard aappend isSS AV.isStr aminmax placesOf abuild afield aidx isStrD isStrDesc astrop aslice asliceOk abound arange anext aextract aunop aeq AV.ck avseq aveq aconv aconvert onB_t onB_f List.range_succ ti0 ti1 ti2 ti3 ti4 ti5 ti6 ti7 ti8 ti9 ti10 ti11 ti12 ti13 ti14 ti15 ti16 ti17 ti18 ti19 ti20 ti21 ti22 ti23 ti24 ti25 ti26 ti27 ti28 ti29 ti30 ti31 ti32 ti33 ti34 ti35 ti36 ti37 ti38 ti39 ti40 ti41 ti42 ti43 ti44 ti45 ti46 ti47 ti48 ti49 ti50 ti51 ti52 ti53 ti54 ti55 ti56 ti57 ti58 ti59 ti60 ti61 ti62 ti63 ti64 ti65 ti66 ti67 ti68 ti69 ti70 ti71 ti72 ti73 ti74 ti75 ti76 ti77 ti78 ti79 ti80 ti81 ti82 ti83 ti84 ti85 ti86 ti87 ti88 ti89 ti90 ti91 ti92 ti93 ti94 ti95 ti96 ti97 ti98 ti99 ti100 ti101
theorem i10 : ∀ c : UInt8, ((c.toNat : Int) == 10) = (c == 10) := fun c => by
  rw [Bool.eq_iff_iff, beq_iff_eq, beq_iff_eq]
  constructor
  · intro h; exact UInt8.toNat_inj.1 (by have : (10 : UInt8).toNat = 10 := rfl; omega)
  · rintro rfl; rfl
set_option maxHeartbeats 4000000 in
theorem ft_ParseR (x : Str) (hl0 : x.length ≤ 100000) (E : List Str) (v : Str) (hE : splitC 10 0 x = E ++ [v]) : FT (env K gw) NoW 12 [.str x] s (.tup [.sl ((parseD E v).1.map Sm.cs), .int .i64 (parseD E v).2.1, .int .i64 (parseD E v).2.2]) s := by
  refine FT.data (fn := Tryd.f12) RG_ok mixed Tryd.func12 (by kernel_rfl) (by rfl) rfl rfl (by simp) rfl fun μ w => ?_
  repeat' (first
    | (refine WP.nr 5 1 9 ?_ ?_; (focus (simp; done)))
    | refine WP.t ?_ | refine WP.k ?_ | refine WP.e ?_ | refine Qn ?_ | refine Qr ?_ | refine Qe ?_ | refine Bn ?_ | refine Br ?_ | refine Be ?_ | refine Bx (by decide) ?_
    | (refine RS.nl ?_; refine hk _ _ ?_; clear hk k)
    | (refine RS.st fun A B hA hB => ?_; simp [onW_t, onW_t, onW_f, onV_s]; first | (refine hA _ _ _ ?_ ?_; (focus (first | (simp [onW_t]; done) | (simp [onW_t]; omega))); clear hA hB A B) | (refine hB ?_; clear hA hB A B) | (refine onV_if ?_ ?_; (focus (first | omega | (refine ⟨?_, ?_⟩ <;> omega))); simp only [onV_s]; refine hA _ _ _ ?_ ?_; (focus (first | (simp [onW_t]; done) | (simp [onW_t]; omega))); clear hA hB A B))
    | (refine RQ.nl ?_; refine hk _ _ ?_; clear hk k)
    | (refine RQ.st fun A B hA hB => ?_; simp [onW_t, onW_t, onW_f, onV_s]; first | (refine hA _ _ _ ?_ (by first | exact .inl rfl | exact .inr (by decide)) ?_; (focus (first | (simp [onW_t]; done) | (simp [onW_t]; omega))); clear hA hB A B) | (refine hB ?_; clear hA hB A B) | (refine onV_if ?_ ?_; (focus (first | omega | (refine ⟨?_, ?_⟩ <;> omega))); simp only [onV_s]; refine hA _ _ _ ?_ (by first | exact .inl rfl | exact .inr (by decide)) ?_; (focus (first | (simp [onW_t]; done) | (simp [onW_t]; omega))); clear hA hB A B))
    | refine WP.sr fun k hk => ?_ | refine WP.r fun k hk => ?_
    | refine WP.sd _ rfl fun k hk => ?_ | refine WP.d _ rfl fun k hk => ?_
    | (refine WP.cc fun A B hA hB => ?_; simp [onW_t, onB_t, onB_f]; first | (refine hA ?_; clear hA hB A B) | (refine hB ?_; clear hA hB A B) | (refine onB_if (fun h => hA ?_) (fun h => hB ?_) <;> clear hA hB A B))
    | refine WP.q ?_ | refine WP.b ?_)
  refine WP_loopS (fun a : Nat × List Str × Nat × Nat => [(0, .str x), (5, .ls a.2.2.2 0 a.2.1.length), (6, .int .i64 a.2.2.1), (7, .int .i64 a.1)])
    (fun a s' => s.nx ≤ a.2.2.2 ∧ a.2.2.2 < s'.nx ∧ s'.get a.2.2.2 = some (.row 1 (true, 9) (a.2.1.map sc)) ∧
      a.1 ≤ x.length ∧ a.2.2.1 ≤ a.1 ∧ a.2.1.length ≤ a.1 ∧ splitC 10 0 (x.take a.1) = a.2.1 ++ [(x.take a.1).drop a.2.2.1])
    (fun a => x.length - a.1) (0, [], 0, s.nx) (by simp) ⟨by simp, by simp, by simp, by simp, by simp, by simp, by simp [splitC]⟩ ?_
  rintro ⟨i, D, fr, rd⟩ s' ⟨hrd, hrd2, hr, hi, hfr, hDi, hsp⟩
  simp only at hrd hrd2 hr hi hfr hDi hsp
  have e1 : ¬ rd = s'.nx := by omega
  have e3 : ¬ s'.nx = rd := by omega
  have w1 : s.nx ≤ s'.nx := by omega
  have hby : (D.length + 1) * 16 ≤ 140737488355328 := by omega
  by_cases hi2 : i < x.length
  · have hw : IntKind.i64.wrap ((i : Int) + 1) = (i : Int) + 1 := wrap64 (by omega) (by omega)
    have hcut : List.take (i - fr) (List.drop fr x) = (x.take i).drop fr := by rw [List.drop_take]
    have hfi : (fr : Int) ≤ (i : Int) := by omega
    have hle : (i : Int) ≤ (x.length : Int) := by omega
    generalize hu : (x.take i).drop fr = u at *
    have htk : x.take (i + 1) = x.take i ++ [x[i]] := List.take_succ_eq_append_getElem hi2
    have hsn := splitC_snoc 10 (x.take i) x[i] D u hsp
    rw [← htk] at hsn
    have hdrop : (x.take (i + 1)).drop fr = u ++ [x[i]] := by rw [htk, List.drop_append_of_le_length (by rw [List.length_take]; omega), hu]
    generalize hv : x[i] = c at *
    cases hcc : (c == 10)
    · skip
      repeat' (first
        | refine WP.t ?_ | refine WP.k ?_ | refine WP.e ?_ | refine Qn ?_ | refine Qr ?_ | refine Qe ?_ | refine Bn ?_ | refine Br ?_ | refine Be ?_ | refine Bx (by decide) ?_
        | (refine RS.nl ?_; refine hk _ _ ?_; clear hk k)
        | (refine RS.st fun A B hA hB => ?_; simp [hle, hw, hcut, hfi, hr, e1, e3, w1, hby, hrd, hi, hi2, hfr, hv, i10, hcc, onW_t, onW_f, onV_s]; first | (refine hA _ _ _ ?_ ?_; (focus (first | (simp [hle, hw, hcut, hfi, hr, e1, e3, w1, hby, hrd, hi, hi2, hfr, hv, i10, hcc]; done) | (simp [hle, hw, hcut, hfi, hr, e1, e3, w1, hby, hrd, hi, hi2, hfr, hv, i10, hcc]; omega))); clear hA hB A B) | (refine hB ?_; clear hA hB A B) | (refine onV_if ?_ ?_; (focus (first | omega | (refine ⟨?_, ?_⟩ <;> omega))); simp only [onV_s]; refine hA _ _ _ ?_ ?_; (focus (first | (simp [hle, hw, hcut, hfi, hr, e1, e3, w1, hby, hrd, hi, hi2, hfr, hv, i10, hcc]; done) | (simp [hle, hw, hcut, hfi, hr, e1, e3, w1, hby, hrd, hi, hi2, hfr, hv, i10, hcc]; omega))); clear hA hB A B))
        | (refine RQ.nl ?_; refine hk _ _ ?_; clear hk k)
        | (refine RQ.st fun A B hA hB => ?_; simp [hle, hw, hcut, hfi, hr, e1, e3, w1, hby, hrd, hi, hi2, hfr, hv, i10, hcc, onW_t, onW_f, onV_s]; first | (refine hA _ _ _ ?_ (by first | exact .inl rfl | exact .inr (by decide)) ?_; (focus (first | (simp [hle, hw, hcut, hfi, hr, e1, e3, w1, hby, hrd, hi, hi2, hfr, hv, i10, hcc]; done) | (simp [hle, hw, hcut, hfi, hr, e1, e3, w1, hby, hrd, hi, hi2, hfr, hv, i10, hcc]; omega))); clear hA hB A B) | (refine hB ?_; clear hA hB A B) | (refine onV_if ?_ ?_; (focus (first | omega | (refine ⟨?_, ?_⟩ <;> omega))); simp only [onV_s]; refine hA _ _ _ ?_ (by first | exact .inl rfl | exact .inr (by decide)) ?_; (focus (first | (simp [hle, hw, hcut, hfi, hr, e1, e3, w1, hby, hrd, hi, hi2, hfr, hv, i10, hcc]; done) | (simp [hle, hw, hcut, hfi, hr, e1, e3, w1, hby, hrd, hi, hi2, hfr, hv, i10, hcc]; omega))); clear hA hB A B))
        | refine WP.sr fun k hk => ?_ | refine WP.r fun k hk => ?_
        | refine WP.sd _ rfl fun k hk => ?_ | refine WP.d _ rfl fun k hk => ?_
        | (refine WP.cc fun A B hA hB => ?_; simp [hle, hw, hcut, hfi, hr, e1, e3, w1, hby, hrd, hi, hi2, hfr, hv, i10, hcc, onB_t, onB_f]; first | (refine hA ?_; clear hA hB A B) | (refine hB ?_; clear hA hB A B) | (refine onB_if (fun h => hA ?_) (fun h => hB ?_) <;> clear hA hB A B))
        | refine WP.q ?_ | refine WP.b ?_)
      refine ⟨(i + 1, D, fr, rd), by simp; omega, by simp, hrd, hrd2, hr, by simp; omega, by simp; omega, by simp; omega, ?_⟩
      simp only [hsn, hcc, hdrop, Bool.false_eq_true, if_false]
    · skip
      repeat' (first
        | refine WP.t ?_ | refine WP.k ?_ | refine WP.e ?_ | refine Qn ?_ | refine Qr ?_ | refine Qe ?_ | refine Bn ?_ | refine Br ?_ | refine Be ?_ | refine Bx (by decide) ?_
        | (refine RS.nl ?_; refine hk _ _ ?_; clear hk k)
        | (refine RS.st fun A B hA hB => ?_; simp [hle, hw, hcut, hfi, hr, e1, e3, w1, hby, hrd, hi, hi2, hfr, hv, i10, hcc, onW_t, onW_f, onV_s]; first | (refine hA _ _ _ ?_ ?_; (focus (first | (simp [hle, hw, hcut, hfi, hr, e1, e3, w1, hby, hrd, hi, hi2, hfr, hv, i10, hcc]; done) | (simp [hle, hw, hcut, hfi, hr, e1, e3, w1, hby, hrd, hi, hi2, hfr, hv, i10, hcc]; omega))); clear hA hB A B) | (refine hB ?_; clear hA hB A B) | (refine onV_if ?_ ?_; (focus (first | omega | (refine ⟨?_, ?_⟩ <;> omega))); simp only [onV_s]; refine hA _ _ _ ?_ ?_; (focus (first | (simp [hle, hw, hcut, hfi, hr, e1, e3, w1, hby, hrd, hi, hi2, hfr, hv, i10, hcc]; done) | (simp [hle, hw, hcut, hfi, hr, e1, e3, w1, hby, hrd, hi, hi2, hfr, hv, i10, hcc]; omega))); clear hA hB A B))
        | (refine RQ.nl ?_; refine hk _ _ ?_; clear hk k)
        | (refine RQ.st fun A B hA hB => ?_; simp [hle, hw, hcut, hfi, hr, e1, e3, w1, hby, hrd, hi, hi2, hfr, hv, i10, hcc, onW_t, onW_f, onV_s]; first | (refine hA _ _ _ ?_ (by first | exact .inl rfl | exact .inr (by decide)) ?_; (focus (first | (simp [hle, hw, hcut, hfi, hr, e1, e3, w1, hby, hrd, hi, hi2, hfr, hv, i10, hcc]; done) | (simp [hle, hw, hcut, hfi, hr, e1, e3, w1, hby, hrd, hi, hi2, hfr, hv, i10, hcc]; omega))); clear hA hB A B) | (refine hB ?_; clear hA hB A B) | (refine onV_if ?_ ?_; (focus (first | omega | (refine ⟨?_, ?_⟩ <;> omega))); simp only [onV_s]; refine hA _ _ _ ?_ (by first | exact .inl rfl | exact .inr (by decide)) ?_; (focus (first | (simp [hle, hw, hcut, hfi, hr, e1, e3, w1, hby, hrd, hi, hi2, hfr, hv, i10, hcc]; done) | (simp [hle, hw, hcut, hfi, hr, e1, e3, w1, hby, hrd, hi, hi2, hfr, hv, i10, hcc]; omega))); clear hA hB A B))
        | refine WP.sr fun k hk => ?_ | refine WP.r fun k hk => ?_
        | refine WP.sd _ rfl fun k hk => ?_ | refine WP.d _ rfl fun k hk => ?_
        | (refine WP.cc fun A B hA hB => ?_; simp [hle, hw, hcut, hfi, hr, e1, e3, w1, hby, hrd, hi, hi2, hfr, hv, i10, hcc, onB_t, onB_f]; first | (refine hA ?_; clear hA hB A B) | (refine hB ?_; clear hA hB A B) | (refine onB_if (fun h => hA ?_) (fun h => hB ?_) <;> clear hA hB A B))
        | refine WP.q ?_ | refine WP.b ?_)
      refine ⟨(i + 1, D ++ [u], i + 1, s'.nx + 1), by simp; omega, by simp, by simp; omega, by simp, ?_, by simp; omega, by simp, by simp; omega, ?_⟩
      · simp [sc]
      · have : (x.take (i + 1)).drop (i + 1) = [] := List.drop_of_length_le (by rw [List.length_take]; omega)
        simp only [hsn, hcc, this, if_true]
  · have hfull : x.take i = x := List.take_of_length_le (by omega)
    rw [hfull, hE] at hsp
    obtain ⟨rfl, hvv⟩ := List.append_inj' hsp rfl
    simp only [List.cons.injEq, and_true] at hvv
    have hiL : i = x.length := by omega
    have hmem : ∀ y ∈ E, y.length ≤ 100000 := fun y hy => Nat.le_trans (splitC_mem 10 0 x y (by rw [hE]; simp [hy])) hl0
    have hEl : E.length ≤ 100001 := by omega
    have hW1 : IntKind.i64.wrap ((E.length : Int) + 1) = (E.length : Int) + 1 := wrap64 (by omega) (by omega)
    by_cases hv0 : v = []
    · have hcmp : ¬ (fr : Int) < (x.length : Int) := by
        rw [hv0] at hvv
        have := congrArg List.length hvv
        simp at this
        omega
      have hmany : E.length + (if v = [] then 0 else 1) = E.length := by rw [if_pos hv0]; rfl
      by_cases h200 : 200 < E.length
      · have h' : (200 : Int) < (E.length : Int) := by omega
        repeat' (first
          | (refine WP.nr 9 8 38 ?_ ?_; (focus (simp; done)))
          | (refine WP.fz 5 rd 1 E.length (true, 9) (E.map sc) ?_ ?_ ?_ ?_ ?_; (focus (simp; done)); (focus (simp [hr]; done)); (focus (simp; done)); (focus (simp; omega)))
          | refine WP.t ?_ | refine WP.k ?_ | refine WP.e ?_ | refine Qn ?_ | refine Qr ?_ | refine Qe ?_ | refine Bn ?_ | refine Br ?_ | refine Be ?_ | refine Bx (by decide) ?_
          | (refine RS.nl ?_; refine hk _ _ ?_; clear hk k)
          | (refine RS.st fun A B hA hB => ?_; simp [RG, hi2, hcmp, hW1, hr, h', h200, onW_t, onW_f, onV_s]; first | (refine hA _ _ _ ?_ ?_; (focus (first | (simp [RG, hi2, hcmp, hW1, hr, h', h200]; done) | (simp [RG, hi2, hcmp, hW1, hr, h', h200]; omega))); clear hA hB A B) | (refine hB ?_; clear hA hB A B) | (refine onV_if ?_ ?_; (focus (first | omega | (refine ⟨?_, ?_⟩ <;> omega))); simp only [onV_s]; refine hA _ _ _ ?_ ?_; (focus (first | (simp [RG, hi2, hcmp, hW1, hr, h', h200]; done) | (simp [RG, hi2, hcmp, hW1, hr, h', h200]; omega))); clear hA hB A B))
          | (refine RQ.nl ?_; refine hk _ _ ?_; clear hk k)
          | (refine RQ.st fun A B hA hB => ?_; simp [RG, hi2, hcmp, hW1, hr, h', h200, onW_t, onW_f, onV_s]; first | (refine hA _ _ _ ?_ (by first | exact .inl rfl | exact .inr (by decide)) ?_; (focus (first | (simp [RG, hi2, hcmp, hW1, hr, h', h200]; done) | (simp [RG, hi2, hcmp, hW1, hr, h', h200]; omega))); clear hA hB A B) | (refine hB ?_; clear hA hB A B) | (refine onV_if ?_ ?_; (focus (first | omega | (refine ⟨?_, ?_⟩ <;> omega))); simp only [onV_s]; refine hA _ _ _ ?_ (by first | exact .inl rfl | exact .inr (by decide)) ?_; (focus (first | (simp [RG, hi2, hcmp, hW1, hr, h', h200]; done) | (simp [RG, hi2, hcmp, hW1, hr, h', h200]; omega))); clear hA hB A B))
          | refine WP.sr fun k hk => ?_ | refine WP.r fun k hk => ?_
          | refine WP.sd _ rfl fun k hk => ?_ | refine WP.d _ rfl fun k hk => ?_
          | (refine WP.cc fun A B hA hB => ?_; simp [RG, hi2, hcmp, hW1, hr, h', h200, onB_t, onB_f]; first | (refine hA ?_; clear hA hB A B) | (refine hB ?_; clear hA hB A B) | (refine onB_if (fun h => hA ?_) (fun h => hB ?_) <;> clear hA hB A B))
          | refine WP.q ?_ | refine WP.b ?_)
        refine ⟨.inr rfl, .tup [.nsl, .int .i64 0, .int .i64 4], by simp, ?_⟩
        simp only [parseD, hmany, if_pos h200]
        exact frz_tup3 .nil (.same _ (.int _ _)) (.same _ (.int _ _))
      have h' : ¬ (200 : Int) < (E.length : Int) := by omega
      repeat' (first
        | (refine WP.nr 9 8 38 ?_ ?_; (focus (simp; done)))
        | (refine WP.fz 5 rd 1 E.length (true, 9) (E.map sc) ?_ ?_ ?_ ?_ ?_; (focus (simp; done)); (focus (simp [hr]; done)); (focus (simp; done)); (focus (simp; omega)))
        | refine WP.t ?_ | refine WP.k ?_ | refine WP.e ?_ | refine Qn ?_ | refine Qr ?_ | refine Qe ?_ | refine Bn ?_ | refine Br ?_ | refine Be ?_ | refine Bx (by decide) ?_
        | (refine RS.nl ?_; refine hk _ _ ?_; clear hk k)
        | (refine RS.st fun A B hA hB => ?_; simp [RG, hi2, hcmp, hW1, hr, h', h200, onW_t, onW_f, onV_s]; first | (refine hA _ _ _ ?_ ?_; (focus (first | (simp [RG, hi2, hcmp, hW1, hr, h', h200]; done) | (simp [RG, hi2, hcmp, hW1, hr, h', h200]; omega))); clear hA hB A B) | (refine hB ?_; clear hA hB A B) | (refine onV_if ?_ ?_; (focus (first | omega | (refine ⟨?_, ?_⟩ <;> omega))); simp only [onV_s]; refine hA _ _ _ ?_ ?_; (focus (first | (simp [RG, hi2, hcmp, hW1, hr, h', h200]; done) | (simp [RG, hi2, hcmp, hW1, hr, h', h200]; omega))); clear hA hB A B))
        | (refine RQ.nl ?_; refine hk _ _ ?_; clear hk k)
        | (refine RQ.st fun A B hA hB => ?_; simp [RG, hi2, hcmp, hW1, hr, h', h200, onW_t, onW_f, onV_s]; first | (refine hA _ _ _ ?_ (by first | exact .inl rfl | exact .inr (by decide)) ?_; (focus (first | (simp [RG, hi2, hcmp, hW1, hr, h', h200]; done) | (simp [RG, hi2, hcmp, hW1, hr, h', h200]; omega))); clear hA hB A B) | (refine hB ?_; clear hA hB A B) | (refine onV_if ?_ ?_; (focus (first | omega | (refine ⟨?_, ?_⟩ <;> omega))); simp only [onV_s]; refine hA _ _ _ ?_ (by first | exact .inl rfl | exact .inr (by decide)) ?_; (focus (first | (simp [RG, hi2, hcmp, hW1, hr, h', h200]; done) | (simp [RG, hi2, hcmp, hW1, hr, h', h200]; omega))); clear hA hB A B))
        | refine WP.sr fun k hk => ?_ | refine WP.r fun k hk => ?_
        | refine WP.sd _ rfl fun k hk => ?_ | refine WP.d _ rfl fun k hk => ?_
        | (refine WP.cc fun A B hA hB => ?_; simp [RG, hi2, hcmp, hW1, hr, h', h200, onB_t, onB_f]; first | (refine hA ?_; clear hA hB A B) | (refine hB ?_; clear hA hB A B) | (refine onB_if (fun h => hA ?_) (fun h => hB ?_) <;> clear hA hB A B))
        | refine WP.q ?_ | refine WP.b ?_)
      refine WP_loopS (fun a : Nat × Nat => [(5, .sl (E.map sc)), (8, .int .i64 ((E.length : Int))), (9, .ls a.2 0 a.1), (10, .int .i64 a.1)]) (fun a s2 => a.1 ≤ E.length ∧ s.nx ≤ a.2 ∧ a.2 < s2.nx ∧ (E.take a.1).all goodR = true ∧ s2.get a.2 = some (.row 8 (true, 38) (((E.take a.1).map gOf).map Sm.cs)))
        (fun a => E.length - a.1) (0, s'.nx) (by simp) ⟨by simp, by simp; omega, by simp, by simp, by simp⟩ ?_
      rintro ⟨j, rd2⟩ s2 ⟨hj, hrd3, hrd4, hall, hr2⟩
      simp only at hj hrd3 hrd4 hall hr2
      by_cases hj2 : j < E.length
      · have hx : E[j]? = some E[j] := List.getElem?_eq_getElem hj2
        have hlx := hmem E[j] (List.getElem_mem hj2)
        have htk : E.take (j + 1) = E.take j ++ [E[j]] := List.take_succ_eq_append_getElem hj2
        have hw := wrap_succ hj2 (show E.length < LIM by simp only [LIM]; omega)
        have hfi : ∀ b : Bool, goodR E[j] = b → b = false → E.findIdx (fun y => !goodR y) = j := fun b h1 h2 => by
          rw [List.findIdx_eq hj2]
          refine ⟨by simp [h1, h2], fun q hq => ?_⟩
          have : E[q] ∈ E.take j := List.mem_take_iff_getElem.2 ⟨q, by omega, rfl⟩
          have := List.all_eq_true.1 hall _ this
          simp [this]
        have hna : goodR E[j] = false → E.all goodR = false := fun h => List.all_eq_false.2 ⟨E[j], List.getElem_mem hj2, by simp [h]⟩
        have a1 : ¬ rd2 = s2.nx := by omega
        have a2 : ¬ rd2 = s2.nx + 1 := by omega
        have a3 : ¬ s2.nx = rd2 := by omega
        have a4 : ¬ s2.nx + 1 = rd2 := by omega
        have v1 : s.nx ≤ s2.nx := by omega
        have v2 : s.nx ≤ s2.nx + 1 := by omega
        have v3 : s.nx ≤ s2.nx + 2 := by omega
        have hmin : min j E.length = j := by omega
        have hby2 : (j + 1) * 96 ≤ 140737488355328 := by omega
        generalize hyv : E[j] = one at *
        obtain ⟨k1, k2⟩ := guess_ok (w := splitC 32 0 one) fun y hy => Nat.le_trans (splitC_mem 32 0 _ y hy) hlx
        have hgd : goodR one = (mayB (gOf one) && (lineS (gOf one) == one)) := rfl
        have hst : gOf one = guessW (splitC 32 0 one) := rfl
        generalize hm : guessW (splitC 32 0 one) = m at *
        rw [hst] at hgd
        have hcs : m.cs = [.int .i64 m.k, .str m.x, .str m.y, .str m.z, .str m.o, .int .i64 m.n, .int .i64 m.a, .int .i64 m.b] := rfl
        have heta : Sm.mk m.k m.x m.y m.z m.o m.n m.a m.b = m := rfl
        cases hmay : mayB m
        · have hbad : goodR one = false := by rw [hgd, hmay]; rfl
          repeat' (first
            | refine WP.t ?_ | refine WP.k ?_ | refine WP.e ?_ | refine Qn ?_ | refine Qr ?_ | refine Qe ?_ | refine Bn ?_ | refine Br ?_ | refine Be ?_ | refine Bx (by decide) ?_
            | (refine RS.nl ?_; refine hk _ _ ?_; clear hk k)
            | (refine RS.st fun A B hA hB => ?_; simp [RG, RF, RE, RD, hj2, hx, hyv, sc, hlx, hm, hcs, heta, k1, hmay, hr2, a1, a2, a3, a4, v1, v2, v3, onW_t, onW_f, onV_s]; first | (refine hA _ _ _ ?_ ?_; (focus (first | (simp [RG, RF, RE, RD, hj2, hx, hyv, sc, hlx, hm, hcs, heta, k1, hmay, hr2, a1, a2, a3, a4, v1, v2, v3]; done) | (simp [RG, RF, RE, RD, hj2, hx, hyv, sc, hlx, hm, hcs, heta, k1, hmay, hr2, a1, a2, a3, a4, v1, v2, v3]; omega))); clear hA hB A B) | (refine hB ?_; clear hA hB A B) | (refine onV_if ?_ ?_; (focus (first | omega | (refine ⟨?_, ?_⟩ <;> omega))); simp only [onV_s]; refine hA _ _ _ ?_ ?_; (focus (first | (simp [RG, RF, RE, RD, hj2, hx, hyv, sc, hlx, hm, hcs, heta, k1, hmay, hr2, a1, a2, a3, a4, v1, v2, v3]; done) | (simp [RG, RF, RE, RD, hj2, hx, hyv, sc, hlx, hm, hcs, heta, k1, hmay, hr2, a1, a2, a3, a4, v1, v2, v3]; omega))); clear hA hB A B))
            | (refine RQ.nl ?_; refine hk _ _ ?_; clear hk k)
            | (refine RQ.st fun A B hA hB => ?_; simp [RG, RF, RE, RD, hj2, hx, hyv, sc, hlx, hm, hcs, heta, k1, hmay, hr2, a1, a2, a3, a4, v1, v2, v3, onW_t, onW_f, onV_s]; first | (refine hA _ _ _ ?_ (by first | exact .inl rfl | exact .inr (by decide)) ?_; (focus (first | (simp [RG, RF, RE, RD, hj2, hx, hyv, sc, hlx, hm, hcs, heta, k1, hmay, hr2, a1, a2, a3, a4, v1, v2, v3]; done) | (simp [RG, RF, RE, RD, hj2, hx, hyv, sc, hlx, hm, hcs, heta, k1, hmay, hr2, a1, a2, a3, a4, v1, v2, v3]; omega))); clear hA hB A B) | (refine hB ?_; clear hA hB A B) | (refine onV_if ?_ ?_; (focus (first | omega | (refine ⟨?_, ?_⟩ <;> omega))); simp only [onV_s]; refine hA _ _ _ ?_ (by first | exact .inl rfl | exact .inr (by decide)) ?_; (focus (first | (simp [RG, RF, RE, RD, hj2, hx, hyv, sc, hlx, hm, hcs, heta, k1, hmay, hr2, a1, a2, a3, a4, v1, v2, v3]; done) | (simp [RG, RF, RE, RD, hj2, hx, hyv, sc, hlx, hm, hcs, heta, k1, hmay, hr2, a1, a2, a3, a4, v1, v2, v3]; omega))); clear hA hB A B))
            | refine WP.sr fun k hk => ?_ | refine WP.r fun k hk => ?_
            | refine WP.sd _ rfl fun k hk => ?_ | refine WP.d _ rfl fun k hk => ?_
            | (refine WP.cc fun A B hA hB => ?_; simp [RG, RF, RE, RD, hj2, hx, hyv, sc, hlx, hm, hcs, heta, k1, hmay, hr2, a1, a2, a3, a4, v1, v2, v3, onB_t, onB_f]; first | (refine hA ?_; clear hA hB A B) | (refine hB ?_; clear hA hB A B) | (refine onB_if (fun h => hA ?_) (fun h => hB ?_) <;> clear hA hB A B))
            | refine WP.q ?_ | refine WP.b ?_)
          refine ⟨.inr rfl, .tup [.nsl, .int .i64 j, .int .i64 2], by simp, ?_⟩
          simp only [parseD, hmany, if_neg h200, hna hbad, Bool.false_eq_true, if_false, hfi _ hbad rfl]
          exact frz_tup3 .nil (.same _ (.int _ _)) (.same _ (.int _ _))
        · have hokw := okW_of (may_short hmay) k2
          cases heq : (lineS m == one)
          · have hbad : goodR one = false := by rw [hgd, hmay, heq]; rfl
            repeat' (first
              | refine WP.t ?_ | refine WP.k ?_ | refine WP.e ?_ | refine Qn ?_ | refine Qr ?_ | refine Qe ?_ | refine Bn ?_ | refine Br ?_ | refine Be ?_ | refine Bx (by decide) ?_
              | (refine RS.nl ?_; refine hk _ _ ?_; clear hk k)
              | (refine RS.st fun A B hA hB => ?_; simp [RG, RF, RE, RD, hj2, hx, hyv, sc, hlx, hm, hcs, heta, k1, hmay, hokw, heq, hr2, a1, a2, a3, a4, v1, v2, v3, onW_t, onW_f, onV_s]; first | (refine hA _ _ _ ?_ ?_; (focus (first | (simp [RG, RF, RE, RD, hj2, hx, hyv, sc, hlx, hm, hcs, heta, k1, hmay, hokw, heq, hr2, a1, a2, a3, a4, v1, v2, v3]; done) | (simp [RG, RF, RE, RD, hj2, hx, hyv, sc, hlx, hm, hcs, heta, k1, hmay, hokw, heq, hr2, a1, a2, a3, a4, v1, v2, v3]; omega))); clear hA hB A B) | (refine hB ?_; clear hA hB A B) | (refine onV_if ?_ ?_; (focus (first | omega | (refine ⟨?_, ?_⟩ <;> omega))); simp only [onV_s]; refine hA _ _ _ ?_ ?_; (focus (first | (simp [RG, RF, RE, RD, hj2, hx, hyv, sc, hlx, hm, hcs, heta, k1, hmay, hokw, heq, hr2, a1, a2, a3, a4, v1, v2, v3]; done) | (simp [RG, RF, RE, RD, hj2, hx, hyv, sc, hlx, hm, hcs, heta, k1, hmay, hokw, heq, hr2, a1, a2, a3, a4, v1, v2, v3]; omega))); clear hA hB A B))
              | (refine RQ.nl ?_; refine hk _ _ ?_; clear hk k)
              | (refine RQ.st fun A B hA hB => ?_; simp [RG, RF, RE, RD, hj2, hx, hyv, sc, hlx, hm, hcs, heta, k1, hmay, hokw, heq, hr2, a1, a2, a3, a4, v1, v2, v3, onW_t, onW_f, onV_s]; first | (refine hA _ _ _ ?_ (by first | exact .inl rfl | exact .inr (by decide)) ?_; (focus (first | (simp [RG, RF, RE, RD, hj2, hx, hyv, sc, hlx, hm, hcs, heta, k1, hmay, hokw, heq, hr2, a1, a2, a3, a4, v1, v2, v3]; done) | (simp [RG, RF, RE, RD, hj2, hx, hyv, sc, hlx, hm, hcs, heta, k1, hmay, hokw, heq, hr2, a1, a2, a3, a4, v1, v2, v3]; omega))); clear hA hB A B) | (refine hB ?_; clear hA hB A B) | (refine onV_if ?_ ?_; (focus (first | omega | (refine ⟨?_, ?_⟩ <;> omega))); simp only [onV_s]; refine hA _ _ _ ?_ (by first | exact .inl rfl | exact .inr (by decide)) ?_; (focus (first | (simp [RG, RF, RE, RD, hj2, hx, hyv, sc, hlx, hm, hcs, heta, k1, hmay, hokw, heq, hr2, a1, a2, a3, a4, v1, v2, v3]; done) | (simp [RG, RF, RE, RD, hj2, hx, hyv, sc, hlx, hm, hcs, heta, k1, hmay, hokw, heq, hr2, a1, a2, a3, a4, v1, v2, v3]; omega))); clear hA hB A B))
              | refine WP.sr fun k hk => ?_ | refine WP.r fun k hk => ?_
              | refine WP.sd _ rfl fun k hk => ?_ | refine WP.d _ rfl fun k hk => ?_
              | (refine WP.cc fun A B hA hB => ?_; simp [RG, RF, RE, RD, hj2, hx, hyv, sc, hlx, hm, hcs, heta, k1, hmay, hokw, heq, hr2, a1, a2, a3, a4, v1, v2, v3, onB_t, onB_f]; first | (refine hA ?_; clear hA hB A B) | (refine hB ?_; clear hA hB A B) | (refine onB_if (fun h => hA ?_) (fun h => hB ?_) <;> clear hA hB A B))
              | refine WP.q ?_ | refine WP.b ?_)
            refine ⟨.inr rfl, .tup [.nsl, .int .i64 j, .int .i64 2], by simp, ?_⟩
            simp only [parseD, hmany, if_neg h200, hna hbad, Bool.false_eq_true, if_false, hfi _ hbad rfl]
            exact frz_tup3 .nil (.same _ (.int _ _)) (.same _ (.int _ _))
          · have hgood : goodR one = true := by rw [hgd, hmay, heq]; rfl
            repeat' (first
              | refine WP.t ?_ | refine WP.k ?_ | refine WP.e ?_ | refine Qn ?_ | refine Qr ?_ | refine Qe ?_ | refine Bn ?_ | refine Br ?_ | refine Be ?_ | refine Bx (by decide) ?_
              | (refine RS.nl ?_; refine hk _ _ ?_; clear hk k)
              | (refine RS.st fun A B hA hB => ?_; simp [RG, RF, RE, RD, hj2, hx, hyv, sc, hlx, hm, hcs, heta, k1, hmay, hokw, heq, hr2, a1, a2, a3, a4, v1, v2, v3, hmin, hby2, hw, onW_t, onW_f, onV_s]; first | (refine hA _ _ _ ?_ ?_; (focus (first | (simp [RG, RF, RE, RD, hj2, hx, hyv, sc, hlx, hm, hcs, heta, k1, hmay, hokw, heq, hr2, a1, a2, a3, a4, v1, v2, v3, hmin, hby2, hw]; done) | (simp [RG, RF, RE, RD, hj2, hx, hyv, sc, hlx, hm, hcs, heta, k1, hmay, hokw, heq, hr2, a1, a2, a3, a4, v1, v2, v3, hmin, hby2, hw]; omega))); clear hA hB A B) | (refine hB ?_; clear hA hB A B) | (refine onV_if ?_ ?_; (focus (first | omega | (refine ⟨?_, ?_⟩ <;> omega))); simp only [onV_s]; refine hA _ _ _ ?_ ?_; (focus (first | (simp [RG, RF, RE, RD, hj2, hx, hyv, sc, hlx, hm, hcs, heta, k1, hmay, hokw, heq, hr2, a1, a2, a3, a4, v1, v2, v3, hmin, hby2, hw]; done) | (simp [RG, RF, RE, RD, hj2, hx, hyv, sc, hlx, hm, hcs, heta, k1, hmay, hokw, heq, hr2, a1, a2, a3, a4, v1, v2, v3, hmin, hby2, hw]; omega))); clear hA hB A B))
              | (refine RQ.nl ?_; refine hk _ _ ?_; clear hk k)
              | (refine RQ.st fun A B hA hB => ?_; simp [RG, RF, RE, RD, hj2, hx, hyv, sc, hlx, hm, hcs, heta, k1, hmay, hokw, heq, hr2, a1, a2, a3, a4, v1, v2, v3, hmin, hby2, hw, onW_t, onW_f, onV_s]; first | (refine hA _ _ _ ?_ (by first | exact .inl rfl | exact .inr (by decide)) ?_; (focus (first | (simp [RG, RF, RE, RD, hj2, hx, hyv, sc, hlx, hm, hcs, heta, k1, hmay, hokw, heq, hr2, a1, a2, a3, a4, v1, v2, v3, hmin, hby2, hw]; done) | (simp [RG, RF, RE, RD, hj2, hx, hyv, sc, hlx, hm, hcs, heta, k1, hmay, hokw, heq, hr2, a1, a2, a3, a4, v1, v2, v3, hmin, hby2, hw]; omega))); clear hA hB A B) | (refine hB ?_; clear hA hB A B) | (refine onV_if ?_ ?_; (focus (first | omega | (refine ⟨?_, ?_⟩ <;> omega))); simp only [onV_s]; refine hA _ _ _ ?_ (by first | exact .inl rfl | exact .inr (by decide)) ?_; (focus (first | (simp [RG, RF, RE, RD, hj2, hx, hyv, sc, hlx, hm, hcs, heta, k1, hmay, hokw, heq, hr2, a1, a2, a3, a4, v1, v2, v3, hmin, hby2, hw]; done) | (simp [RG, RF, RE, RD, hj2, hx, hyv, sc, hlx, hm, hcs, heta, k1, hmay, hokw, heq, hr2, a1, a2, a3, a4, v1, v2, v3, hmin, hby2, hw]; omega))); clear hA hB A B))
              | refine WP.sr fun k hk => ?_ | refine WP.r fun k hk => ?_
              | refine WP.sd _ rfl fun k hk => ?_ | refine WP.d _ rfl fun k hk => ?_
              | (refine WP.cc fun A B hA hB => ?_; simp [RG, RF, RE, RD, hj2, hx, hyv, sc, hlx, hm, hcs, heta, k1, hmay, hokw, heq, hr2, a1, a2, a3, a4, v1, v2, v3, hmin, hby2, hw, onB_t, onB_f]; first | (refine hA ?_; clear hA hB A B) | (refine hB ?_; clear hA hB A B) | (refine onB_if (fun h => hA ?_) (fun h => hB ?_) <;> clear hA hB A B))
              | refine WP.q ?_ | refine WP.b ?_)
            refine ⟨(j + 1, s2.nx + 2), by simp; omega, by simp, by simp; omega, by simp; omega, by simp, by simp only [htk, List.all_append, hall]; simp [hgood], ?_⟩
            simp [htk, hst, hcs, List.map_take]
      have he : E.take j = E := List.take_of_length_le (by omega)
      have hjL : j = E.length := by omega
      rw [he] at hall hr2
      have hcc1 : (E.length : Int) < (E.length : Int) + 1 := by omega
      repeat' (first
        | refine WP.t ?_ | refine WP.k ?_ | refine WP.e ?_ | refine Qn ?_ | refine Qr ?_ | refine Qe ?_ | refine Bn ?_ | refine Br ?_ | refine Be ?_ | refine Bx (by decide) ?_
        | (refine RS.nl ?_; refine hk _ _ ?_; clear hk k)
        | (refine RS.st fun A B hA hB => ?_; simp [hj2, hcc1, onW_t, onW_f, onV_s]; first | (refine hA _ _ _ ?_ ?_; (focus (first | (simp [hj2, hcc1]; done) | (simp [hj2, hcc1]; omega))); clear hA hB A B) | (refine hB ?_; clear hA hB A B) | (refine onV_if ?_ ?_; (focus (first | omega | (refine ⟨?_, ?_⟩ <;> omega))); simp only [onV_s]; refine hA _ _ _ ?_ ?_; (focus (first | (simp [hj2, hcc1]; done) | (simp [hj2, hcc1]; omega))); clear hA hB A B))
        | (refine RQ.nl ?_; refine hk _ _ ?_; clear hk k)
        | (refine RQ.st fun A B hA hB => ?_; simp [hj2, hcc1, onW_t, onW_f, onV_s]; first | (refine hA _ _ _ ?_ (by first | exact .inl rfl | exact .inr (by decide)) ?_; (focus (first | (simp [hj2, hcc1]; done) | (simp [hj2, hcc1]; omega))); clear hA hB A B) | (refine hB ?_; clear hA hB A B) | (refine onV_if ?_ ?_; (focus (first | omega | (refine ⟨?_, ?_⟩ <;> omega))); simp only [onV_s]; refine hA _ _ _ ?_ (by first | exact .inl rfl | exact .inr (by decide)) ?_; (focus (first | (simp [hj2, hcc1]; done) | (simp [hj2, hcc1]; omega))); clear hA hB A B))
        | refine WP.sr fun k hk => ?_ | refine WP.r fun k hk => ?_
        | refine WP.sd _ rfl fun k hk => ?_ | refine WP.d _ rfl fun k hk => ?_
        | (refine WP.cc fun A B hA hB => ?_; simp [hj2, hcc1, onB_t, onB_f]; first | (refine hA ?_; clear hA hB A B) | (refine hB ?_; clear hA hB A B) | (refine onB_if (fun h => hA ?_) (fun h => hB ?_) <;> clear hA hB A B))
        | refine WP.q ?_ | refine WP.b ?_)
      refine ⟨.inr rfl, .tup [.ls rd2 0 j, .int .i64 0, .int .i64 0], by simp, ?_⟩
      simp only [parseD, hmany, if_neg h200, hall, if_true, if_pos hv0, Nat.add_zero]
      exact frz_tup3 (frz_sl cSm hr2 hrd3 (by simp [hjL])) (.same _ (.int _ _)) (.same _ (.int _ _))
    · have hcmp : (fr : Int) < (x.length : Int) := by
        have : 0 < v.length := List.length_pos_iff.2 hv0
        rw [hvv] at this
        simp at this
        omega
      have hmany : E.length + (if v = [] then 0 else 1) = E.length + 1 := by rw [if_neg hv0]
      by_cases h200 : 200 < E.length + 1
      · have h' : (200 : Int) < (E.length : Int) + 1 := by omega
        repeat' (first
          | (refine WP.nr 9 8 38 ?_ ?_; (focus (simp; done)))
          | (refine WP.fz 5 rd 1 E.length (true, 9) (E.map sc) ?_ ?_ ?_ ?_ ?_; (focus (simp; done)); (focus (simp [hr]; done)); (focus (simp; done)); (focus (simp; omega)))
          | refine WP.t ?_ | refine WP.k ?_ | refine WP.e ?_ | refine Qn ?_ | refine Qr ?_ | refine Qe ?_ | refine Bn ?_ | refine Br ?_ | refine Be ?_ | refine Bx (by decide) ?_
          | (refine RS.nl ?_; refine hk _ _ ?_; clear hk k)
          | (refine RS.st fun A B hA hB => ?_; simp [RG, hi2, hcmp, hW1, hr, h', h200, onW_t, onW_f, onV_s]; first | (refine hA _ _ _ ?_ ?_; (focus (first | (simp [RG, hi2, hcmp, hW1, hr, h', h200]; done) | (simp [RG, hi2, hcmp, hW1, hr, h', h200]; omega))); clear hA hB A B) | (refine hB ?_; clear hA hB A B) | (refine onV_if ?_ ?_; (focus (first | omega | (refine ⟨?_, ?_⟩ <;> omega))); simp only [onV_s]; refine hA _ _ _ ?_ ?_; (focus (first | (simp [RG, hi2, hcmp, hW1, hr, h', h200]; done) | (simp [RG, hi2, hcmp, hW1, hr, h', h200]; omega))); clear hA hB A B))
          | (refine RQ.nl ?_; refine hk _ _ ?_; clear hk k)
          | (refine RQ.st fun A B hA hB => ?_; simp [RG, hi2, hcmp, hW1, hr, h', h200, onW_t, onW_f, onV_s]; first | (refine hA _ _ _ ?_ (by first | exact .inl rfl | exact .inr (by decide)) ?_; (focus (first | (simp [RG, hi2, hcmp, hW1, hr, h', h200]; done) | (simp [RG, hi2, hcmp, hW1, hr, h', h200]; omega))); clear hA hB A B) | (refine hB ?_; clear hA hB A B) | (refine onV_if ?_ ?_; (focus (first | omega | (refine ⟨?_, ?_⟩ <;> omega))); simp only [onV_s]; refine hA _ _ _ ?_ (by first | exact .inl rfl | exact .inr (by decide)) ?_; (focus (first | (simp [RG, hi2, hcmp, hW1, hr, h', h200]; done) | (simp [RG, hi2, hcmp, hW1, hr, h', h200]; omega))); clear hA hB A B))
          | refine WP.sr fun k hk => ?_ | refine WP.r fun k hk => ?_
          | refine WP.sd _ rfl fun k hk => ?_ | refine WP.d _ rfl fun k hk => ?_
          | (refine WP.cc fun A B hA hB => ?_; simp [RG, hi2, hcmp, hW1, hr, h', h200, onB_t, onB_f]; first | (refine hA ?_; clear hA hB A B) | (refine hB ?_; clear hA hB A B) | (refine onB_if (fun h => hA ?_) (fun h => hB ?_) <;> clear hA hB A B))
          | refine WP.q ?_ | refine WP.b ?_)
        refine ⟨.inr rfl, .tup [.nsl, .int .i64 0, .int .i64 4], by simp, ?_⟩
        simp only [parseD, hmany, if_pos h200]
        exact frz_tup3 .nil (.same _ (.int _ _)) (.same _ (.int _ _))
      have h' : ¬ (200 : Int) < (E.length : Int) + 1 := by omega
      repeat' (first
        | (refine WP.nr 9 8 38 ?_ ?_; (focus (simp; done)))
        | (refine WP.fz 5 rd 1 E.length (true, 9) (E.map sc) ?_ ?_ ?_ ?_ ?_; (focus (simp; done)); (focus (simp [hr]; done)); (focus (simp; done)); (focus (simp; omega)))
        | refine WP.t ?_ | refine WP.k ?_ | refine WP.e ?_ | refine Qn ?_ | refine Qr ?_ | refine Qe ?_ | refine Bn ?_ | refine Br ?_ | refine Be ?_ | refine Bx (by decide) ?_
        | (refine RS.nl ?_; refine hk _ _ ?_; clear hk k)
        | (refine RS.st fun A B hA hB => ?_; simp [RG, hi2, hcmp, hW1, hr, h', h200, onW_t, onW_f, onV_s]; first | (refine hA _ _ _ ?_ ?_; (focus (first | (simp [RG, hi2, hcmp, hW1, hr, h', h200]; done) | (simp [RG, hi2, hcmp, hW1, hr, h', h200]; omega))); clear hA hB A B) | (refine hB ?_; clear hA hB A B) | (refine onV_if ?_ ?_; (focus (first | omega | (refine ⟨?_, ?_⟩ <;> omega))); simp only [onV_s]; refine hA _ _ _ ?_ ?_; (focus (first | (simp [RG, hi2, hcmp, hW1, hr, h', h200]; done) | (simp [RG, hi2, hcmp, hW1, hr, h', h200]; omega))); clear hA hB A B))
        | (refine RQ.nl ?_; refine hk _ _ ?_; clear hk k)
        | (refine RQ.st fun A B hA hB => ?_; simp [RG, hi2, hcmp, hW1, hr, h', h200, onW_t, onW_f, onV_s]; first | (refine hA _ _ _ ?_ (by first | exact .inl rfl | exact .inr (by decide)) ?_; (focus (first | (simp [RG, hi2, hcmp, hW1, hr, h', h200]; done) | (simp [RG, hi2, hcmp, hW1, hr, h', h200]; omega))); clear hA hB A B) | (refine hB ?_; clear hA hB A B) | (refine onV_if ?_ ?_; (focus (first | omega | (refine ⟨?_, ?_⟩ <;> omega))); simp only [onV_s]; refine hA _ _ _ ?_ (by first | exact .inl rfl | exact .inr (by decide)) ?_; (focus (first | (simp [RG, hi2, hcmp, hW1, hr, h', h200]; done) | (simp [RG, hi2, hcmp, hW1, hr, h', h200]; omega))); clear hA hB A B))
        | refine WP.sr fun k hk => ?_ | refine WP.r fun k hk => ?_
        | refine WP.sd _ rfl fun k hk => ?_ | refine WP.d _ rfl fun k hk => ?_
        | (refine WP.cc fun A B hA hB => ?_; simp [RG, hi2, hcmp, hW1, hr, h', h200, onB_t, onB_f]; first | (refine hA ?_; clear hA hB A B) | (refine hB ?_; clear hA hB A B) | (refine onB_if (fun h => hA ?_) (fun h => hB ?_) <;> clear hA hB A B))
        | refine WP.q ?_ | refine WP.b ?_)
      refine WP_loopS (fun a : Nat × Nat => [(5, .sl (E.map sc)), (8, .int .i64 ((E.length : Int) + 1)), (9, .ls a.2 0 a.1), (10, .int .i64 a.1)]) (fun a s2 => a.1 ≤ E.length ∧ s.nx ≤ a.2 ∧ a.2 < s2.nx ∧ (E.take a.1).all goodR = true ∧ s2.get a.2 = some (.row 8 (true, 38) (((E.take a.1).map gOf).map Sm.cs)))
        (fun a => E.length - a.1) (0, s'.nx) (by simp) ⟨by simp, by simp; omega, by simp, by simp, by simp⟩ ?_
      rintro ⟨j, rd2⟩ s2 ⟨hj, hrd3, hrd4, hall, hr2⟩
      simp only at hj hrd3 hrd4 hall hr2
      by_cases hj2 : j < E.length
      · have hx : E[j]? = some E[j] := List.getElem?_eq_getElem hj2
        have hlx := hmem E[j] (List.getElem_mem hj2)
        have htk : E.take (j + 1) = E.take j ++ [E[j]] := List.take_succ_eq_append_getElem hj2
        have hw := wrap_succ hj2 (show E.length < LIM by simp only [LIM]; omega)
        have hfi : ∀ b : Bool, goodR E[j] = b → b = false → E.findIdx (fun y => !goodR y) = j := fun b h1 h2 => by
          rw [List.findIdx_eq hj2]
          refine ⟨by simp [h1, h2], fun q hq => ?_⟩
          have : E[q] ∈ E.take j := List.mem_take_iff_getElem.2 ⟨q, by omega, rfl⟩
          have := List.all_eq_true.1 hall _ this
          simp [this]
        have hna : goodR E[j] = false → E.all goodR = false := fun h => List.all_eq_false.2 ⟨E[j], List.getElem_mem hj2, by simp [h]⟩
        have a1 : ¬ rd2 = s2.nx := by omega
        have a2 : ¬ rd2 = s2.nx + 1 := by omega
        have a3 : ¬ s2.nx = rd2 := by omega
        have a4 : ¬ s2.nx + 1 = rd2 := by omega
        have v1 : s.nx ≤ s2.nx := by omega
        have v2 : s.nx ≤ s2.nx + 1 := by omega
        have v3 : s.nx ≤ s2.nx + 2 := by omega
        have hmin : min j E.length = j := by omega
        have hby2 : (j + 1) * 96 ≤ 140737488355328 := by omega
        generalize hyv : E[j] = one at *
        obtain ⟨k1, k2⟩ := guess_ok (w := splitC 32 0 one) fun y hy => Nat.le_trans (splitC_mem 32 0 _ y hy) hlx
        have hgd : goodR one = (mayB (gOf one) && (lineS (gOf one) == one)) := rfl
        have hst : gOf one = guessW (splitC 32 0 one) := rfl
        generalize hm : guessW (splitC 32 0 one) = m at *
        rw [hst] at hgd
        have hcs : m.cs = [.int .i64 m.k, .str m.x, .str m.y, .str m.z, .str m.o, .int .i64 m.n, .int .i64 m.a, .int .i64 m.b] := rfl
        have heta : Sm.mk m.k m.x m.y m.z m.o m.n m.a m.b = m := rfl
        cases hmay : mayB m
        · have hbad : goodR one = false := by rw [hgd, hmay]; rfl
          repeat' (first
            | refine WP.t ?_ | refine WP.k ?_ | refine WP.e ?_ | refine Qn ?_ | refine Qr ?_ | refine Qe ?_ | refine Bn ?_ | refine Br ?_ | refine Be ?_ | refine Bx (by decide) ?_
            | (refine RS.nl ?_; refine hk _ _ ?_; clear hk k)
            | (refine RS.st fun A B hA hB => ?_; simp [RG, RF, RE, RD, hj2, hx, hyv, sc, hlx, hm, hcs, heta, k1, hmay, hr2, a1, a2, a3, a4, v1, v2, v3, onW_t, onW_f, onV_s]; first | (refine hA _ _ _ ?_ ?_; (focus (first | (simp [RG, RF, RE, RD, hj2, hx, hyv, sc, hlx, hm, hcs, heta, k1, hmay, hr2, a1, a2, a3, a4, v1, v2, v3]; done) | (simp [RG, RF, RE, RD, hj2, hx, hyv, sc, hlx, hm, hcs, heta, k1, hmay, hr2, a1, a2, a3, a4, v1, v2, v3]; omega))); clear hA hB A B) | (refine hB ?_; clear hA hB A B) | (refine onV_if ?_ ?_; (focus (first | omega | (refine ⟨?_, ?_⟩ <;> omega))); simp only [onV_s]; refine hA _ _ _ ?_ ?_; (focus (first | (simp [RG, RF, RE, RD, hj2, hx, hyv, sc, hlx, hm, hcs, heta, k1, hmay, hr2, a1, a2, a3, a4, v1, v2, v3]; done) | (simp [RG, RF, RE, RD, hj2, hx, hyv, sc, hlx, hm, hcs, heta, k1, hmay, hr2, a1, a2, a3, a4, v1, v2, v3]; omega))); clear hA hB A B))
            | (refine RQ.nl ?_; refine hk _ _ ?_; clear hk k)
            | (refine RQ.st fun A B hA hB => ?_; simp [RG, RF, RE, RD, hj2, hx, hyv, sc, hlx, hm, hcs, heta, k1, hmay, hr2, a1, a2, a3, a4, v1, v2, v3, onW_t, onW_f, onV_s]; first | (refine hA _ _ _ ?_ (by first | exact .inl rfl | exact .inr (by decide)) ?_; (focus (first | (simp [RG, RF, RE, RD, hj2, hx, hyv, sc, hlx, hm, hcs, heta, k1, hmay, hr2, a1, a2, a3, a4, v1, v2, v3]; done) | (simp [RG, RF, RE, RD, hj2, hx, hyv, sc, hlx, hm, hcs, heta, k1, hmay, hr2, a1, a2, a3, a4, v1, v2, v3]; omega))); clear hA hB A B) | (refine hB ?_; clear hA hB A B) | (refine onV_if ?_ ?_; (focus (first | omega | (refine ⟨?_, ?_⟩ <;> omega))); simp only [onV_s]; refine hA _ _ _ ?_ (by first | exact .inl rfl | exact .inr (by decide)) ?_; (focus (first | (simp [RG, RF, RE, RD, hj2, hx, hyv, sc, hlx, hm, hcs, heta, k1, hmay, hr2, a1, a2, a3, a4, v1, v2, v3]; done) | (simp [RG, RF, RE, RD, hj2, hx, hyv, sc, hlx, hm, hcs, heta, k1, hmay, hr2, a1, a2, a3, a4, v1, v2, v3]; omega))); clear hA hB A B))
            | refine WP.sr fun k hk => ?_ | refine WP.r fun k hk => ?_
            | refine WP.sd _ rfl fun k hk => ?_ | refine WP.d _ rfl fun k hk => ?_
            | (refine WP.cc fun A B hA hB => ?_; simp [RG, RF, RE, RD, hj2, hx, hyv, sc, hlx, hm, hcs, heta, k1, hmay, hr2, a1, a2, a3, a4, v1, v2, v3, onB_t, onB_f]; first | (refine hA ?_; clear hA hB A B) | (refine hB ?_; clear hA hB A B) | (refine onB_if (fun h => hA ?_) (fun h => hB ?_) <;> clear hA hB A B))
            | refine WP.q ?_ | refine WP.b ?_)
          refine ⟨.inr rfl, .tup [.nsl, .int .i64 j, .int .i64 2], by simp, ?_⟩
          simp only [parseD, hmany, if_neg h200, hna hbad, Bool.false_eq_true, if_false, hfi _ hbad rfl]
          exact frz_tup3 .nil (.same _ (.int _ _)) (.same _ (.int _ _))
        · have hokw := okW_of (may_short hmay) k2
          cases heq : (lineS m == one)
          · have hbad : goodR one = false := by rw [hgd, hmay, heq]; rfl
            repeat' (first
              | refine WP.t ?_ | refine WP.k ?_ | refine WP.e ?_ | refine Qn ?_ | refine Qr ?_ | refine Qe ?_ | refine Bn ?_ | refine Br ?_ | refine Be ?_ | refine Bx (by decide) ?_
              | (refine RS.nl ?_; refine hk _ _ ?_; clear hk k)
              | (refine RS.st fun A B hA hB => ?_; simp [RG, RF, RE, RD, hj2, hx, hyv, sc, hlx, hm, hcs, heta, k1, hmay, hokw, heq, hr2, a1, a2, a3, a4, v1, v2, v3, onW_t, onW_f, onV_s]; first | (refine hA _ _ _ ?_ ?_; (focus (first | (simp [RG, RF, RE, RD, hj2, hx, hyv, sc, hlx, hm, hcs, heta, k1, hmay, hokw, heq, hr2, a1, a2, a3, a4, v1, v2, v3]; done) | (simp [RG, RF, RE, RD, hj2, hx, hyv, sc, hlx, hm, hcs, heta, k1, hmay, hokw, heq, hr2, a1, a2, a3, a4, v1, v2, v3]; omega))); clear hA hB A B) | (refine hB ?_; clear hA hB A B) | (refine onV_if ?_ ?_; (focus (first | omega | (refine ⟨?_, ?_⟩ <;> omega))); simp only [onV_s]; refine hA _ _ _ ?_ ?_; (focus (first | (simp [RG, RF, RE, RD, hj2, hx, hyv, sc, hlx, hm, hcs, heta, k1, hmay, hokw, heq, hr2, a1, a2, a3, a4, v1, v2, v3]; done) | (simp [RG, RF, RE, RD, hj2, hx, hyv, sc, hlx, hm, hcs, heta, k1, hmay, hokw, heq, hr2, a1, a2, a3, a4, v1, v2, v3]; omega))); clear hA hB A B))
              | (refine RQ.nl ?_; refine hk _ _ ?_; clear hk k)
              | (refine RQ.st fun A B hA hB => ?_; simp [RG, RF, RE, RD, hj2, hx, hyv, sc, hlx, hm, hcs, heta, k1, hmay, hokw, heq, hr2, a1, a2, a3, a4, v1, v2, v3, onW_t, onW_f, onV_s]; first | (refine hA _ _ _ ?_ (by first | exact .inl rfl | exact .inr (by decide)) ?_; (focus (first | (simp [RG, RF, RE, RD, hj2, hx, hyv, sc, hlx, hm, hcs, heta, k1, hmay, hokw, heq, hr2, a1, a2, a3, a4, v1, v2, v3]; done) | (simp [RG, RF, RE, RD, hj2, hx, hyv, sc, hlx, hm, hcs, heta, k1, hmay, hokw, heq, hr2, a1, a2, a3, a4, v1, v2, v3]; omega))); clear hA hB A B) | (refine hB ?_; clear hA hB A B) | (refine onV_if ?_ ?_; (focus (first | omega | (refine ⟨?_, ?_⟩ <;> omega))); simp only [onV_s]; refine hA _ _ _ ?_ (by first | exact .inl rfl | exact .inr (by decide)) ?_; (focus (first | (simp [RG, RF, RE, RD, hj2, hx, hyv, sc, hlx, hm, hcs, heta, k1, hmay, hokw, heq, hr2, a1, a2, a3, a4, v1, v2, v3]; done) | (simp [RG, RF, RE, RD, hj2, hx, hyv, sc, hlx, hm, hcs, heta, k1, hmay, hokw, heq, hr2, a1, a2, a3, a4, v1, v2, v3]; omega))); clear hA hB A B))
              | refine WP.sr fun k hk => ?_ | refine WP.r fun k hk => ?_
              | refine WP.sd _ rfl fun k hk => ?_ | refine WP.d _ rfl fun k hk => ?_
              | (refine WP.cc fun A B hA hB => ?_; simp [RG, RF, RE, RD, hj2, hx, hyv, sc, hlx, hm, hcs, heta, k1, hmay, hokw, heq, hr2, a1, a2, a3, a4, v1, v2, v3, onB_t, onB_f]; first | (refine hA ?_; clear hA hB A B) | (refine hB ?_; clear hA hB A B) | (refine onB_if (fun h => hA ?_) (fun h => hB ?_) <;> clear hA hB A B))
              | refine WP.q ?_ | refine WP.b ?_)
            refine ⟨.inr rfl, .tup [.nsl, .int .i64 j, .int .i64 2], by simp, ?_⟩
            simp only [parseD, hmany, if_neg h200, hna hbad, Bool.false_eq_true, if_false, hfi _ hbad rfl]
            exact frz_tup3 .nil (.same _ (.int _ _)) (.same _ (.int _ _))
          · have hgood : goodR one = true := by rw [hgd, hmay, heq]; rfl
            repeat' (first
              | refine WP.t ?_ | refine WP.k ?_ | refine WP.e ?_ | refine Qn ?_ | refine Qr ?_ | refine Qe ?_ | refine Bn ?_ | refine Br ?_ | refine Be ?_ | refine Bx (by decide) ?_
              | (refine RS.nl ?_; refine hk _ _ ?_; clear hk k)
              | (refine RS.st fun A B hA hB => ?_; simp [RG, RF, RE, RD, hj2, hx, hyv, sc, hlx, hm, hcs, heta, k1, hmay, hokw, heq, hr2, a1, a2, a3, a4, v1, v2, v3, hmin, hby2, hw, onW_t, onW_f, onV_s]; first | (refine hA _ _ _ ?_ ?_; (focus (first | (simp [RG, RF, RE, RD, hj2, hx, hyv, sc, hlx, hm, hcs, heta, k1, hmay, hokw, heq, hr2, a1, a2, a3, a4, v1, v2, v3, hmin, hby2, hw]; done) | (simp [RG, RF, RE, RD, hj2, hx, hyv, sc, hlx, hm, hcs, heta, k1, hmay, hokw, heq, hr2, a1, a2, a3, a4, v1, v2, v3, hmin, hby2, hw]; omega))); clear hA hB A B) | (refine hB ?_; clear hA hB A B) | (refine onV_if ?_ ?_; (focus (first | omega | (refine ⟨?_, ?_⟩ <;> omega))); simp only [onV_s]; refine hA _ _ _ ?_ ?_; (focus (first | (simp [RG, RF, RE, RD, hj2, hx, hyv, sc, hlx, hm, hcs, heta, k1, hmay, hokw, heq, hr2, a1, a2, a3, a4, v1, v2, v3, hmin, hby2, hw]; done) | (simp [RG, RF, RE, RD, hj2, hx, hyv, sc, hlx, hm, hcs, heta, k1, hmay, hokw, heq, hr2, a1, a2, a3, a4, v1, v2, v3, hmin, hby2, hw]; omega))); clear hA hB A B))
              | (refine RQ.nl ?_; refine hk _ _ ?_; clear hk k)
              | (refine RQ.st fun A B hA hB => ?_; simp [RG, RF, RE, RD, hj2, hx, hyv, sc, hlx, hm, hcs, heta, k1, hmay, hokw, heq, hr2, a1, a2, a3, a4, v1, v2, v3, hmin, hby2, hw, onW_t, onW_f, onV_s]; first | (refine hA _ _ _ ?_ (by first | exact .inl rfl | exact .inr (by decide)) ?_; (focus (first | (simp [RG, RF, RE, RD, hj2, hx, hyv, sc, hlx, hm, hcs, heta, k1, hmay, hokw, heq, hr2, a1, a2, a3, a4, v1, v2, v3, hmin, hby2, hw]; done) | (simp [RG, RF, RE, RD, hj2, hx, hyv, sc, hlx, hm, hcs, heta, k1, hmay, hokw, heq, hr2, a1, a2, a3, a4, v1, v2, v3, hmin, hby2, hw]; omega))); clear hA hB A B) | (refine hB ?_; clear hA hB A B) | (refine onV_if ?_ ?_; (focus (first | omega | (refine ⟨?_, ?_⟩ <;> omega))); simp only [onV_s]; refine hA _ _ _ ?_ (by first | exact .inl rfl | exact .inr (by decide)) ?_; (focus (first | (simp [RG, RF, RE, RD, hj2, hx, hyv, sc, hlx, hm, hcs, heta, k1, hmay, hokw, heq, hr2, a1, a2, a3, a4, v1, v2, v3, hmin, hby2, hw]; done) | (simp [RG, RF, RE, RD, hj2, hx, hyv, sc, hlx, hm, hcs, heta, k1, hmay, hokw, heq, hr2, a1, a2, a3, a4, v1, v2, v3, hmin, hby2, hw]; omega))); clear hA hB A B))
              | refine WP.sr fun k hk => ?_ | refine WP.r fun k hk => ?_
              | refine WP.sd _ rfl fun k hk => ?_ | refine WP.d _ rfl fun k hk => ?_
              | (refine WP.cc fun A B hA hB => ?_; simp [RG, RF, RE, RD, hj2, hx, hyv, sc, hlx, hm, hcs, heta, k1, hmay, hokw, heq, hr2, a1, a2, a3, a4, v1, v2, v3, hmin, hby2, hw, onB_t, onB_f]; first | (refine hA ?_; clear hA hB A B) | (refine hB ?_; clear hA hB A B) | (refine onB_if (fun h => hA ?_) (fun h => hB ?_) <;> clear hA hB A B))
              | refine WP.q ?_ | refine WP.b ?_)
            refine ⟨(j + 1, s2.nx + 2), by simp; omega, by simp, by simp; omega, by simp; omega, by simp, by simp only [htk, List.all_append, hall]; simp [hgood], ?_⟩
            simp [htk, hst, hcs, List.map_take]
      have he : E.take j = E := List.take_of_length_le (by omega)
      have hjL : j = E.length := by omega
      rw [he] at hall hr2
      have hcc1 : (E.length : Int) < (E.length : Int) + 1 := by omega
      repeat' (first
        | refine WP.t ?_ | refine WP.k ?_ | refine WP.e ?_ | refine Qn ?_ | refine Qr ?_ | refine Qe ?_ | refine Bn ?_ | refine Br ?_ | refine Be ?_ | refine Bx (by decide) ?_
        | (refine RS.nl ?_; refine hk _ _ ?_; clear hk k)
        | (refine RS.st fun A B hA hB => ?_; simp [hj2, hcc1, onW_t, onW_f, onV_s]; first | (refine hA _ _ _ ?_ ?_; (focus (first | (simp [hj2, hcc1]; done) | (simp [hj2, hcc1]; omega))); clear hA hB A B) | (refine hB ?_; clear hA hB A B) | (refine onV_if ?_ ?_; (focus (first | omega | (refine ⟨?_, ?_⟩ <;> omega))); simp only [onV_s]; refine hA _ _ _ ?_ ?_; (focus (first | (simp [hj2, hcc1]; done) | (simp [hj2, hcc1]; omega))); clear hA hB A B))
        | (refine RQ.nl ?_; refine hk _ _ ?_; clear hk k)
        | (refine RQ.st fun A B hA hB => ?_; simp [hj2, hcc1, onW_t, onW_f, onV_s]; first | (refine hA _ _ _ ?_ (by first | exact .inl rfl | exact .inr (by decide)) ?_; (focus (first | (simp [hj2, hcc1]; done) | (simp [hj2, hcc1]; omega))); clear hA hB A B) | (refine hB ?_; clear hA hB A B) | (refine onV_if ?_ ?_; (focus (first | omega | (refine ⟨?_, ?_⟩ <;> omega))); simp only [onV_s]; refine hA _ _ _ ?_ (by first | exact .inl rfl | exact .inr (by decide)) ?_; (focus (first | (simp [hj2, hcc1]; done) | (simp [hj2, hcc1]; omega))); clear hA hB A B))
        | refine WP.sr fun k hk => ?_ | refine WP.r fun k hk => ?_
        | refine WP.sd _ rfl fun k hk => ?_ | refine WP.d _ rfl fun k hk => ?_
        | (refine WP.cc fun A B hA hB => ?_; simp [hj2, hcc1, onB_t, onB_f]; first | (refine hA ?_; clear hA hB A B) | (refine hB ?_; clear hA hB A B) | (refine onB_if (fun h => hA ?_) (fun h => hB ?_) <;> clear hA hB A B))
        | refine WP.q ?_ | refine WP.b ?_)
      refine ⟨.inr rfl, .tup [.nsl, .int .i64 E.length, .int .i64 2], by simp, ?_⟩
      simp only [parseD, hmany, if_neg h200, hall, if_true, if_neg hv0]
      exact frz_tup3 .nil (.same _ (.int _ _)) (.same _ (.int _ _))
end
end Go.Am
