/- Part of the proof: abstract values over the given model of Go (U7, U8, U9, U10, U11). Conditions: none of its own; see the statement in the seat's Rows text. -/
import Derived.Test.YtkfociekgeldnaaDoorAmUb
set_option linter.unusedSimpArgs false
set_option linter.unusedVariables false
set_option linter.unusedSectionVars false
namespace Go.Am
open Go.Proofs Go.Shelf
section
variable {K : Nat} {gw : World} {s : St}
attribute [local simp] awanted xop zOf zrow aop ev T0 Slots.put Slots.set Slots.get awr WOk AV.may ofConst abinop aint isConst St.get_push St.get_put St.live AV.fit AV.cells AV.one fieldOf afieldAddr aload ofCells astore splice May eqres env_ti FinP FinZ FinW ares aresL ares1 Fns.addP Fns.add Fns.a0 Fns.a1 Fns.a2 Fns.a3 Fns.a4 abuiltin alenOk alen aindex elemOfT elemId abuildSlice afill chunks ard aappend isSS AV.isStr aminmax placesOf abuild afield aidx isStrD isStrDesc astrop aslice asliceOk abound arange anext aextract aunop aeq AV.ck avseq aveq aconv aconvert onB_t onB_f List.range_succ ti0 ti1 ti2 ti3 ti4 ti5 ti6 ti7 ti8 ti9 ti10 ti11 ti12 ti13 ti14 ti15 ti16 ti17 ti18 ti19 ti20 ti21 ti22 ti23 ti24 ti25 ti26 ti27 ti28 ti29 ti30 ti31 ti32 ti33 ti34 ti35 ti36 ti37 ti38 ti39 ti40 ti41 ti42 ti43 ti44 ti45 ti46 ti47 ti48 ti49 ti50 ti51 ti52 ti53 ti54 ti55 ti56 ti57 ti58 ti59 ti60 ti61 ti62 ti63 ti64 ti65 ti66 ti67 ti68 ti69 ti70 ti71 ti72 ti73 ti74 ti75 ti76 ti77 ti78 ti79 ti80 ti81 ti82 ti83 ti84 ti85 ti86 ti87 ti88 ti89 ti90 ti91 ti92 ti93 ti94 ti95 ti96 ti97 ti98 ti99 ti100 ti101
def FG : Fns := FF.a1 16 (vAgg cSm) fun m => if okS m = true then some (.bool (mayB m)) else none
theorem FG_ok (hG : GW K gw) : FOk (env K gw) FG := (FF_ok hG).a1 fun m s r h => by split at h <;> cases h; exact ft_May hG m ‹_›
def wordsL (m : Sm) : List Str :=
  if m.k = 1 then [m.x, [61], Lib.itoa m.n] else if m.k = 2 then [m.x, [61], m.y, m.o, m.z] else if m.k = 3 then [m.x, [61], m.y] else if m.k = 4 then [m.x, [61], kSource] else
  if m.k = 5 then [m.x, [61], kClean, m.y] else if m.k = 6 then [kSink, m.y] else if m.k = 7 then [kBranch, m.y, Lib.itoa m.a, Lib.itoa m.b] else if m.k = 8 then [kJump, Lib.itoa m.a] else [kReturn]
def lineS (m : Sm) : Str := Lib.join (wordsL m) [32]
def okW (m : Sm) : Bool := decide (m.x.length ≤ 1000) && decide (m.y.length ≤ 1000) && decide (m.z.length ≤ 1000) && decide (m.o.length ≤ 1000) && i64ok m.n && i64ok m.a && i64ok m.b
theorem join_le (p : Str) : ∀ l : List Str, (Lib.join l p).length ≤ (l.map fun x => x.length + p.length).sum
  | [] => by simp [Lib.join]
  | [x] => by simp [Lib.join]
  | x :: y :: l => by
    have h := join_le p (y :: l)
    have e : Lib.join (x :: y :: l) p = x ++ p ++ Lib.join (y :: l) p := by simp [Lib.join, List.intercalate_cons_cons]
    rw [e, List.map_cons, List.sum_cons]
    simp only [List.length_append]
    omega
theorem itoa_le {n : Int} (h : i64ok n = true) : (Lib.itoa n).length ≤ 21 := by
  simp only [i64ok, decide_eq_true_eq] at h
  exact Lib.itoa_length_le n h.1 h.2
theorem ft_words1 (hG : GW K gw) (x y z o : Str) (n a b : Int) (hx : x.length ≤ 1000) (hy : y.length ≤ 1000) (hz : z.length ≤ 1000) (ho : o.length ≤ 1000) (hn : i64ok n = true) (ha : i64ok a = true) (hb : i64ok b = true) : FT (env K gw) NoW 26 [.agg (Sm.mk 1 x y z o n a b).cs] s (.str (lineS ⟨1, x, y, z, o, n, a, b⟩)) s := by
  have hj : (Lib.join [x, [61], Lib.itoa n] [32]).length ≤ 140737488355328 := by
    refine Nat.le_trans (join_le _ _) ?_
    have h1 := itoa_le hn
    have h2 := itoa_le ha
    have h3 := itoa_le hb
    simp
    try omega
  refine FT.pure (fn := Tryd.f26) (FG_ok hG) mixed Tryd.func26 (by kernel_rfl) (by rfl) rfl rfl (by simp) rfl fun μ w => ?_
  repeat' (first
    | refine WP.t ?_ | refine WP.k ?_ | refine WP.e ?_ | refine Qn ?_ | refine Qr ?_ | refine Qe ?_ | refine Bn ?_ | refine Br ?_ | refine Be ?_ | refine Bx (by decide) ?_
    | (refine RS.nl ?_; refine hk _ _ ?_; clear hk k)
    | (refine RS.st fun A B hA hB => ?_; simp [FG, FF, FE, Sm.cs, hn, ha, hb, hj, onW_t, onW_f, onV_s]; first | (refine hA _ _ _ ?_ ?_; (focus (first | (simp [FG, FF, FE, Sm.cs, hn, ha, hb, hj]; done) | (simp [FG, FF, FE, Sm.cs, hn, ha, hb, hj]; omega))); clear hA hB A B) | (refine hB ?_; clear hA hB A B) | (refine onV_if ?_ ?_; (focus (first | omega | (refine ⟨?_, ?_⟩ <;> omega))); simp only [onV_s]; refine hA _ _ _ ?_ ?_; (focus (first | (simp [FG, FF, FE, Sm.cs, hn, ha, hb, hj]; done) | (simp [FG, FF, FE, Sm.cs, hn, ha, hb, hj]; omega))); clear hA hB A B))
    | (refine RQ.nl ?_; refine hk _ _ ?_; clear hk k)
    | (refine RQ.st fun A B hA hB => ?_; simp [FG, FF, FE, Sm.cs, hn, ha, hb, hj, onW_t, onW_f, onV_s]; first | (refine hA _ _ _ ?_ (by first | exact .inl rfl | exact .inr (by decide)) ?_; (focus (first | (simp [FG, FF, FE, Sm.cs, hn, ha, hb, hj]; done) | (simp [FG, FF, FE, Sm.cs, hn, ha, hb, hj]; omega))); clear hA hB A B) | (refine hB ?_; clear hA hB A B) | (refine onV_if ?_ ?_; (focus (first | omega | (refine ⟨?_, ?_⟩ <;> omega))); simp only [onV_s]; refine hA _ _ _ ?_ (by first | exact .inl rfl | exact .inr (by decide)) ?_; (focus (first | (simp [FG, FF, FE, Sm.cs, hn, ha, hb, hj]; done) | (simp [FG, FF, FE, Sm.cs, hn, ha, hb, hj]; omega))); clear hA hB A B))
    | refine WP.sr fun k hk => ?_ | refine WP.r fun k hk => ?_
    | refine WP.sd _ rfl fun k hk => ?_ | refine WP.d _ rfl fun k hk => ?_
    | (refine WP.cc fun A B hA hB => ?_; simp [FG, FF, FE, Sm.cs, hn, ha, hb, hj, onB_t, onB_f]; first | (refine hA ?_; clear hA hB A B) | (refine hB ?_; clear hA hB A B) | (refine onB_if (fun h => hA ?_) (fun h => hB ?_) <;> clear hA hB A B))
    | refine WP.q ?_ | refine WP.b ?_)
  simp [lineS, wordsL]
theorem ft_words2 (hG : GW K gw) (x y z o : Str) (n a b : Int) (hx : x.length ≤ 1000) (hy : y.length ≤ 1000) (hz : z.length ≤ 1000) (ho : o.length ≤ 1000) (hn : i64ok n = true) (ha : i64ok a = true) (hb : i64ok b = true) : FT (env K gw) NoW 26 [.agg (Sm.mk 2 x y z o n a b).cs] s (.str (lineS ⟨2, x, y, z, o, n, a, b⟩)) s := by
  have hj : (Lib.join [x, [61], y, o, z] [32]).length ≤ 140737488355328 := by
    refine Nat.le_trans (join_le _ _) ?_
    have h1 := itoa_le hn
    have h2 := itoa_le ha
    have h3 := itoa_le hb
    simp
    try omega
  refine FT.pure (fn := Tryd.f26) (FG_ok hG) mixed Tryd.func26 (by kernel_rfl) (by rfl) rfl rfl (by simp) rfl fun μ w => ?_
  repeat' (first
    | refine WP.t ?_ | refine WP.k ?_ | refine WP.e ?_ | refine Qn ?_ | refine Qr ?_ | refine Qe ?_ | refine Bn ?_ | refine Br ?_ | refine Be ?_ | refine Bx (by decide) ?_
    | (refine RS.nl ?_; refine hk _ _ ?_; clear hk k)
    | (refine RS.st fun A B hA hB => ?_; simp [FG, FF, FE, Sm.cs, hn, ha, hb, hj, onW_t, onW_f, onV_s]; first | (refine hA _ _ _ ?_ ?_; (focus (first | (simp [FG, FF, FE, Sm.cs, hn, ha, hb, hj]; done) | (simp [FG, FF, FE, Sm.cs, hn, ha, hb, hj]; omega))); clear hA hB A B) | (refine hB ?_; clear hA hB A B) | (refine onV_if ?_ ?_; (focus (first | omega | (refine ⟨?_, ?_⟩ <;> omega))); simp only [onV_s]; refine hA _ _ _ ?_ ?_; (focus (first | (simp [FG, FF, FE, Sm.cs, hn, ha, hb, hj]; done) | (simp [FG, FF, FE, Sm.cs, hn, ha, hb, hj]; omega))); clear hA hB A B))
    | (refine RQ.nl ?_; refine hk _ _ ?_; clear hk k)
    | (refine RQ.st fun A B hA hB => ?_; simp [FG, FF, FE, Sm.cs, hn, ha, hb, hj, onW_t, onW_f, onV_s]; first | (refine hA _ _ _ ?_ (by first | exact .inl rfl | exact .inr (by decide)) ?_; (focus (first | (simp [FG, FF, FE, Sm.cs, hn, ha, hb, hj]; done) | (simp [FG, FF, FE, Sm.cs, hn, ha, hb, hj]; omega))); clear hA hB A B) | (refine hB ?_; clear hA hB A B) | (refine onV_if ?_ ?_; (focus (first | omega | (refine ⟨?_, ?_⟩ <;> omega))); simp only [onV_s]; refine hA _ _ _ ?_ (by first | exact .inl rfl | exact .inr (by decide)) ?_; (focus (first | (simp [FG, FF, FE, Sm.cs, hn, ha, hb, hj]; done) | (simp [FG, FF, FE, Sm.cs, hn, ha, hb, hj]; omega))); clear hA hB A B))
    | refine WP.sr fun k hk => ?_ | refine WP.r fun k hk => ?_
    | refine WP.sd _ rfl fun k hk => ?_ | refine WP.d _ rfl fun k hk => ?_
    | (refine WP.cc fun A B hA hB => ?_; simp [FG, FF, FE, Sm.cs, hn, ha, hb, hj, onB_t, onB_f]; first | (refine hA ?_; clear hA hB A B) | (refine hB ?_; clear hA hB A B) | (refine onB_if (fun h => hA ?_) (fun h => hB ?_) <;> clear hA hB A B))
    | refine WP.q ?_ | refine WP.b ?_)
  simp [lineS, wordsL]
theorem ft_words3 (hG : GW K gw) (x y z o : Str) (n a b : Int) (hx : x.length ≤ 1000) (hy : y.length ≤ 1000) (hz : z.length ≤ 1000) (ho : o.length ≤ 1000) (hn : i64ok n = true) (ha : i64ok a = true) (hb : i64ok b = true) : FT (env K gw) NoW 26 [.agg (Sm.mk 3 x y z o n a b).cs] s (.str (lineS ⟨3, x, y, z, o, n, a, b⟩)) s := by
  have hj : (Lib.join [x, [61], y] [32]).length ≤ 140737488355328 := by
    refine Nat.le_trans (join_le _ _) ?_
    have h1 := itoa_le hn
    have h2 := itoa_le ha
    have h3 := itoa_le hb
    simp
    try omega
  refine FT.pure (fn := Tryd.f26) (FG_ok hG) mixed Tryd.func26 (by kernel_rfl) (by rfl) rfl rfl (by simp) rfl fun μ w => ?_
  repeat' (first
    | refine WP.t ?_ | refine WP.k ?_ | refine WP.e ?_ | refine Qn ?_ | refine Qr ?_ | refine Qe ?_ | refine Bn ?_ | refine Br ?_ | refine Be ?_ | refine Bx (by decide) ?_
    | (refine RS.nl ?_; refine hk _ _ ?_; clear hk k)
    | (refine RS.st fun A B hA hB => ?_; simp [FG, FF, FE, Sm.cs, hn, ha, hb, hj, onW_t, onW_f, onV_s]; first | (refine hA _ _ _ ?_ ?_; (focus (first | (simp [FG, FF, FE, Sm.cs, hn, ha, hb, hj]; done) | (simp [FG, FF, FE, Sm.cs, hn, ha, hb, hj]; omega))); clear hA hB A B) | (refine hB ?_; clear hA hB A B) | (refine onV_if ?_ ?_; (focus (first | omega | (refine ⟨?_, ?_⟩ <;> omega))); simp only [onV_s]; refine hA _ _ _ ?_ ?_; (focus (first | (simp [FG, FF, FE, Sm.cs, hn, ha, hb, hj]; done) | (simp [FG, FF, FE, Sm.cs, hn, ha, hb, hj]; omega))); clear hA hB A B))
    | (refine RQ.nl ?_; refine hk _ _ ?_; clear hk k)
    | (refine RQ.st fun A B hA hB => ?_; simp [FG, FF, FE, Sm.cs, hn, ha, hb, hj, onW_t, onW_f, onV_s]; first | (refine hA _ _ _ ?_ (by first | exact .inl rfl | exact .inr (by decide)) ?_; (focus (first | (simp [FG, FF, FE, Sm.cs, hn, ha, hb, hj]; done) | (simp [FG, FF, FE, Sm.cs, hn, ha, hb, hj]; omega))); clear hA hB A B) | (refine hB ?_; clear hA hB A B) | (refine onV_if ?_ ?_; (focus (first | omega | (refine ⟨?_, ?_⟩ <;> omega))); simp only [onV_s]; refine hA _ _ _ ?_ (by first | exact .inl rfl | exact .inr (by decide)) ?_; (focus (first | (simp [FG, FF, FE, Sm.cs, hn, ha, hb, hj]; done) | (simp [FG, FF, FE, Sm.cs, hn, ha, hb, hj]; omega))); clear hA hB A B))
    | refine WP.sr fun k hk => ?_ | refine WP.r fun k hk => ?_
    | refine WP.sd _ rfl fun k hk => ?_ | refine WP.d _ rfl fun k hk => ?_
    | (refine WP.cc fun A B hA hB => ?_; simp [FG, FF, FE, Sm.cs, hn, ha, hb, hj, onB_t, onB_f]; first | (refine hA ?_; clear hA hB A B) | (refine hB ?_; clear hA hB A B) | (refine onB_if (fun h => hA ?_) (fun h => hB ?_) <;> clear hA hB A B))
    | refine WP.q ?_ | refine WP.b ?_)
  simp [lineS, wordsL]
theorem ft_words4 (hG : GW K gw) (x y z o : Str) (n a b : Int) (hx : x.length ≤ 1000) (hy : y.length ≤ 1000) (hz : z.length ≤ 1000) (ho : o.length ≤ 1000) (hn : i64ok n = true) (ha : i64ok a = true) (hb : i64ok b = true) : FT (env K gw) NoW 26 [.agg (Sm.mk 4 x y z o n a b).cs] s (.str (lineS ⟨4, x, y, z, o, n, a, b⟩)) s := by
  have hj : (Lib.join [x, [61], kSource] [32]).length ≤ 140737488355328 := by
    refine Nat.le_trans (join_le _ _) ?_
    have h1 := itoa_le hn
    have h2 := itoa_le ha
    have h3 := itoa_le hb
    simp
    try omega
  refine FT.pure (fn := Tryd.f26) (FG_ok hG) mixed Tryd.func26 (by kernel_rfl) (by rfl) rfl rfl (by simp) rfl fun μ w => ?_
  repeat' (first
    | refine WP.t ?_ | refine WP.k ?_ | refine WP.e ?_ | refine Qn ?_ | refine Qr ?_ | refine Qe ?_ | refine Bn ?_ | refine Br ?_ | refine Be ?_ | refine Bx (by decide) ?_
    | (refine RS.nl ?_; refine hk _ _ ?_; clear hk k)
    | (refine RS.st fun A B hA hB => ?_; simp [FG, FF, FE, Sm.cs, hn, ha, hb, hj, onW_t, onW_f, onV_s]; first | (refine hA _ _ _ ?_ ?_; (focus (first | (simp [FG, FF, FE, Sm.cs, hn, ha, hb, hj]; done) | (simp [FG, FF, FE, Sm.cs, hn, ha, hb, hj]; omega))); clear hA hB A B) | (refine hB ?_; clear hA hB A B) | (refine onV_if ?_ ?_; (focus (first | omega | (refine ⟨?_, ?_⟩ <;> omega))); simp only [onV_s]; refine hA _ _ _ ?_ ?_; (focus (first | (simp [FG, FF, FE, Sm.cs, hn, ha, hb, hj]; done) | (simp [FG, FF, FE, Sm.cs, hn, ha, hb, hj]; omega))); clear hA hB A B))
    | (refine RQ.nl ?_; refine hk _ _ ?_; clear hk k)
    | (refine RQ.st fun A B hA hB => ?_; simp [FG, FF, FE, Sm.cs, hn, ha, hb, hj, onW_t, onW_f, onV_s]; first | (refine hA _ _ _ ?_ (by first | exact .inl rfl | exact .inr (by decide)) ?_; (focus (first | (simp [FG, FF, FE, Sm.cs, hn, ha, hb, hj]; done) | (simp [FG, FF, FE, Sm.cs, hn, ha, hb, hj]; omega))); clear hA hB A B) | (refine hB ?_; clear hA hB A B) | (refine onV_if ?_ ?_; (focus (first | omega | (refine ⟨?_, ?_⟩ <;> omega))); simp only [onV_s]; refine hA _ _ _ ?_ (by first | exact .inl rfl | exact .inr (by decide)) ?_; (focus (first | (simp [FG, FF, FE, Sm.cs, hn, ha, hb, hj]; done) | (simp [FG, FF, FE, Sm.cs, hn, ha, hb, hj]; omega))); clear hA hB A B))
    | refine WP.sr fun k hk => ?_ | refine WP.r fun k hk => ?_
    | refine WP.sd _ rfl fun k hk => ?_ | refine WP.d _ rfl fun k hk => ?_
    | (refine WP.cc fun A B hA hB => ?_; simp [FG, FF, FE, Sm.cs, hn, ha, hb, hj, onB_t, onB_f]; first | (refine hA ?_; clear hA hB A B) | (refine hB ?_; clear hA hB A B) | (refine onB_if (fun h => hA ?_) (fun h => hB ?_) <;> clear hA hB A B))
    | refine WP.q ?_ | refine WP.b ?_)
  simp [lineS, wordsL]
theorem ft_words5 (hG : GW K gw) (x y z o : Str) (n a b : Int) (hx : x.length ≤ 1000) (hy : y.length ≤ 1000) (hz : z.length ≤ 1000) (ho : o.length ≤ 1000) (hn : i64ok n = true) (ha : i64ok a = true) (hb : i64ok b = true) : FT (env K gw) NoW 26 [.agg (Sm.mk 5 x y z o n a b).cs] s (.str (lineS ⟨5, x, y, z, o, n, a, b⟩)) s := by
  have hj : (Lib.join [x, [61], kClean, y] [32]).length ≤ 140737488355328 := by
    refine Nat.le_trans (join_le _ _) ?_
    have h1 := itoa_le hn
    have h2 := itoa_le ha
    have h3 := itoa_le hb
    simp
    try omega
  refine FT.pure (fn := Tryd.f26) (FG_ok hG) mixed Tryd.func26 (by kernel_rfl) (by rfl) rfl rfl (by simp) rfl fun μ w => ?_
  repeat' (first
    | refine WP.t ?_ | refine WP.k ?_ | refine WP.e ?_ | refine Qn ?_ | refine Qr ?_ | refine Qe ?_ | refine Bn ?_ | refine Br ?_ | refine Be ?_ | refine Bx (by decide) ?_
    | (refine RS.nl ?_; refine hk _ _ ?_; clear hk k)
    | (refine RS.st fun A B hA hB => ?_; simp [FG, FF, FE, Sm.cs, hn, ha, hb, hj, onW_t, onW_f, onV_s]; first | (refine hA _ _ _ ?_ ?_; (focus (first | (simp [FG, FF, FE, Sm.cs, hn, ha, hb, hj]; done) | (simp [FG, FF, FE, Sm.cs, hn, ha, hb, hj]; omega))); clear hA hB A B) | (refine hB ?_; clear hA hB A B) | (refine onV_if ?_ ?_; (focus (first | omega | (refine ⟨?_, ?_⟩ <;> omega))); simp only [onV_s]; refine hA _ _ _ ?_ ?_; (focus (first | (simp [FG, FF, FE, Sm.cs, hn, ha, hb, hj]; done) | (simp [FG, FF, FE, Sm.cs, hn, ha, hb, hj]; omega))); clear hA hB A B))
    | (refine RQ.nl ?_; refine hk _ _ ?_; clear hk k)
    | (refine RQ.st fun A B hA hB => ?_; simp [FG, FF, FE, Sm.cs, hn, ha, hb, hj, onW_t, onW_f, onV_s]; first | (refine hA _ _ _ ?_ (by first | exact .inl rfl | exact .inr (by decide)) ?_; (focus (first | (simp [FG, FF, FE, Sm.cs, hn, ha, hb, hj]; done) | (simp [FG, FF, FE, Sm.cs, hn, ha, hb, hj]; omega))); clear hA hB A B) | (refine hB ?_; clear hA hB A B) | (refine onV_if ?_ ?_; (focus (first | omega | (refine ⟨?_, ?_⟩ <;> omega))); simp only [onV_s]; refine hA _ _ _ ?_ (by first | exact .inl rfl | exact .inr (by decide)) ?_; (focus (first | (simp [FG, FF, FE, Sm.cs, hn, ha, hb, hj]; done) | (simp [FG, FF, FE, Sm.cs, hn, ha, hb, hj]; omega))); clear hA hB A B))
    | refine WP.sr fun k hk => ?_ | refine WP.r fun k hk => ?_
    | refine WP.sd _ rfl fun k hk => ?_ | refine WP.d _ rfl fun k hk => ?_
    | (refine WP.cc fun A B hA hB => ?_; simp [FG, FF, FE, Sm.cs, hn, ha, hb, hj, onB_t, onB_f]; first | (refine hA ?_; clear hA hB A B) | (refine hB ?_; clear hA hB A B) | (refine onB_if (fun h => hA ?_) (fun h => hB ?_) <;> clear hA hB A B))
    | refine WP.q ?_ | refine WP.b ?_)
  simp [lineS, wordsL]
theorem ft_words6 (hG : GW K gw) (x y z o : Str) (n a b : Int) (hx : x.length ≤ 1000) (hy : y.length ≤ 1000) (hz : z.length ≤ 1000) (ho : o.length ≤ 1000) (hn : i64ok n = true) (ha : i64ok a = true) (hb : i64ok b = true) : FT (env K gw) NoW 26 [.agg (Sm.mk 6 x y z o n a b).cs] s (.str (lineS ⟨6, x, y, z, o, n, a, b⟩)) s := by
  have hj : (Lib.join [kSink, y] [32]).length ≤ 140737488355328 := by
    refine Nat.le_trans (join_le _ _) ?_
    have h1 := itoa_le hn
    have h2 := itoa_le ha
    have h3 := itoa_le hb
    simp
    try omega
  refine FT.pure (fn := Tryd.f26) (FG_ok hG) mixed Tryd.func26 (by kernel_rfl) (by rfl) rfl rfl (by simp) rfl fun μ w => ?_
  repeat' (first
    | refine WP.t ?_ | refine WP.k ?_ | refine WP.e ?_ | refine Qn ?_ | refine Qr ?_ | refine Qe ?_ | refine Bn ?_ | refine Br ?_ | refine Be ?_ | refine Bx (by decide) ?_
    | (refine RS.nl ?_; refine hk _ _ ?_; clear hk k)
    | (refine RS.st fun A B hA hB => ?_; simp [FG, FF, FE, Sm.cs, hn, ha, hb, hj, onW_t, onW_f, onV_s]; first | (refine hA _ _ _ ?_ ?_; (focus (first | (simp [FG, FF, FE, Sm.cs, hn, ha, hb, hj]; done) | (simp [FG, FF, FE, Sm.cs, hn, ha, hb, hj]; omega))); clear hA hB A B) | (refine hB ?_; clear hA hB A B) | (refine onV_if ?_ ?_; (focus (first | omega | (refine ⟨?_, ?_⟩ <;> omega))); simp only [onV_s]; refine hA _ _ _ ?_ ?_; (focus (first | (simp [FG, FF, FE, Sm.cs, hn, ha, hb, hj]; done) | (simp [FG, FF, FE, Sm.cs, hn, ha, hb, hj]; omega))); clear hA hB A B))
    | (refine RQ.nl ?_; refine hk _ _ ?_; clear hk k)
    | (refine RQ.st fun A B hA hB => ?_; simp [FG, FF, FE, Sm.cs, hn, ha, hb, hj, onW_t, onW_f, onV_s]; first | (refine hA _ _ _ ?_ (by first | exact .inl rfl | exact .inr (by decide)) ?_; (focus (first | (simp [FG, FF, FE, Sm.cs, hn, ha, hb, hj]; done) | (simp [FG, FF, FE, Sm.cs, hn, ha, hb, hj]; omega))); clear hA hB A B) | (refine hB ?_; clear hA hB A B) | (refine onV_if ?_ ?_; (focus (first | omega | (refine ⟨?_, ?_⟩ <;> omega))); simp only [onV_s]; refine hA _ _ _ ?_ (by first | exact .inl rfl | exact .inr (by decide)) ?_; (focus (first | (simp [FG, FF, FE, Sm.cs, hn, ha, hb, hj]; done) | (simp [FG, FF, FE, Sm.cs, hn, ha, hb, hj]; omega))); clear hA hB A B))
    | refine WP.sr fun k hk => ?_ | refine WP.r fun k hk => ?_
    | refine WP.sd _ rfl fun k hk => ?_ | refine WP.d _ rfl fun k hk => ?_
    | (refine WP.cc fun A B hA hB => ?_; simp [FG, FF, FE, Sm.cs, hn, ha, hb, hj, onB_t, onB_f]; first | (refine hA ?_; clear hA hB A B) | (refine hB ?_; clear hA hB A B) | (refine onB_if (fun h => hA ?_) (fun h => hB ?_) <;> clear hA hB A B))
    | refine WP.q ?_ | refine WP.b ?_)
  simp [lineS, wordsL]
theorem ft_words7 (hG : GW K gw) (x y z o : Str) (n a b : Int) (hx : x.length ≤ 1000) (hy : y.length ≤ 1000) (hz : z.length ≤ 1000) (ho : o.length ≤ 1000) (hn : i64ok n = true) (ha : i64ok a = true) (hb : i64ok b = true) : FT (env K gw) NoW 26 [.agg (Sm.mk 7 x y z o n a b).cs] s (.str (lineS ⟨7, x, y, z, o, n, a, b⟩)) s := by
  have hj : (Lib.join [kBranch, y, Lib.itoa a, Lib.itoa b] [32]).length ≤ 140737488355328 := by
    refine Nat.le_trans (join_le _ _) ?_
    have h1 := itoa_le hn
    have h2 := itoa_le ha
    have h3 := itoa_le hb
    simp
    try omega
  refine FT.pure (fn := Tryd.f26) (FG_ok hG) mixed Tryd.func26 (by kernel_rfl) (by rfl) rfl rfl (by simp) rfl fun μ w => ?_
  repeat' (first
    | refine WP.t ?_ | refine WP.k ?_ | refine WP.e ?_ | refine Qn ?_ | refine Qr ?_ | refine Qe ?_ | refine Bn ?_ | refine Br ?_ | refine Be ?_ | refine Bx (by decide) ?_
    | (refine RS.nl ?_; refine hk _ _ ?_; clear hk k)
    | (refine RS.st fun A B hA hB => ?_; simp [FG, FF, FE, Sm.cs, hn, ha, hb, hj, onW_t, onW_f, onV_s]; first | (refine hA _ _ _ ?_ ?_; (focus (first | (simp [FG, FF, FE, Sm.cs, hn, ha, hb, hj]; done) | (simp [FG, FF, FE, Sm.cs, hn, ha, hb, hj]; omega))); clear hA hB A B) | (refine hB ?_; clear hA hB A B) | (refine onV_if ?_ ?_; (focus (first | omega | (refine ⟨?_, ?_⟩ <;> omega))); simp only [onV_s]; refine hA _ _ _ ?_ ?_; (focus (first | (simp [FG, FF, FE, Sm.cs, hn, ha, hb, hj]; done) | (simp [FG, FF, FE, Sm.cs, hn, ha, hb, hj]; omega))); clear hA hB A B))
    | (refine RQ.nl ?_; refine hk _ _ ?_; clear hk k)
    | (refine RQ.st fun A B hA hB => ?_; simp [FG, FF, FE, Sm.cs, hn, ha, hb, hj, onW_t, onW_f, onV_s]; first | (refine hA _ _ _ ?_ (by first | exact .inl rfl | exact .inr (by decide)) ?_; (focus (first | (simp [FG, FF, FE, Sm.cs, hn, ha, hb, hj]; done) | (simp [FG, FF, FE, Sm.cs, hn, ha, hb, hj]; omega))); clear hA hB A B) | (refine hB ?_; clear hA hB A B) | (refine onV_if ?_ ?_; (focus (first | omega | (refine ⟨?_, ?_⟩ <;> omega))); simp only [onV_s]; refine hA _ _ _ ?_ (by first | exact .inl rfl | exact .inr (by decide)) ?_; (focus (first | (simp [FG, FF, FE, Sm.cs, hn, ha, hb, hj]; done) | (simp [FG, FF, FE, Sm.cs, hn, ha, hb, hj]; omega))); clear hA hB A B))
    | refine WP.sr fun k hk => ?_ | refine WP.r fun k hk => ?_
    | refine WP.sd _ rfl fun k hk => ?_ | refine WP.d _ rfl fun k hk => ?_
    | (refine WP.cc fun A B hA hB => ?_; simp [FG, FF, FE, Sm.cs, hn, ha, hb, hj, onB_t, onB_f]; first | (refine hA ?_; clear hA hB A B) | (refine hB ?_; clear hA hB A B) | (refine onB_if (fun h => hA ?_) (fun h => hB ?_) <;> clear hA hB A B))
    | refine WP.q ?_ | refine WP.b ?_)
  simp [lineS, wordsL]
theorem ft_words8 (hG : GW K gw) (x y z o : Str) (n a b : Int) (hx : x.length ≤ 1000) (hy : y.length ≤ 1000) (hz : z.length ≤ 1000) (ho : o.length ≤ 1000) (hn : i64ok n = true) (ha : i64ok a = true) (hb : i64ok b = true) : FT (env K gw) NoW 26 [.agg (Sm.mk 8 x y z o n a b).cs] s (.str (lineS ⟨8, x, y, z, o, n, a, b⟩)) s := by
  have hj : (Lib.join [kJump, Lib.itoa a] [32]).length ≤ 140737488355328 := by
    refine Nat.le_trans (join_le _ _) ?_
    have h1 := itoa_le hn
    have h2 := itoa_le ha
    have h3 := itoa_le hb
    simp
    try omega
  refine FT.pure (fn := Tryd.f26) (FG_ok hG) mixed Tryd.func26 (by kernel_rfl) (by rfl) rfl rfl (by simp) rfl fun μ w => ?_
  repeat' (first
    | refine WP.t ?_ | refine WP.k ?_ | refine WP.e ?_ | refine Qn ?_ | refine Qr ?_ | refine Qe ?_ | refine Bn ?_ | refine Br ?_ | refine Be ?_ | refine Bx (by decide) ?_
    | (refine RS.nl ?_; refine hk _ _ ?_; clear hk k)
    | (refine RS.st fun A B hA hB => ?_; simp [FG, FF, FE, Sm.cs, hn, ha, hb, hj, onW_t, onW_f, onV_s]; first | (refine hA _ _ _ ?_ ?_; (focus (first | (simp [FG, FF, FE, Sm.cs, hn, ha, hb, hj]; done) | (simp [FG, FF, FE, Sm.cs, hn, ha, hb, hj]; omega))); clear hA hB A B) | (refine hB ?_; clear hA hB A B) | (refine onV_if ?_ ?_; (focus (first | omega | (refine ⟨?_, ?_⟩ <;> omega))); simp only [onV_s]; refine hA _ _ _ ?_ ?_; (focus (first | (simp [FG, FF, FE, Sm.cs, hn, ha, hb, hj]; done) | (simp [FG, FF, FE, Sm.cs, hn, ha, hb, hj]; omega))); clear hA hB A B))
    | (refine RQ.nl ?_; refine hk _ _ ?_; clear hk k)
    | (refine RQ.st fun A B hA hB => ?_; simp [FG, FF, FE, Sm.cs, hn, ha, hb, hj, onW_t, onW_f, onV_s]; first | (refine hA _ _ _ ?_ (by first | exact .inl rfl | exact .inr (by decide)) ?_; (focus (first | (simp [FG, FF, FE, Sm.cs, hn, ha, hb, hj]; done) | (simp [FG, FF, FE, Sm.cs, hn, ha, hb, hj]; omega))); clear hA hB A B) | (refine hB ?_; clear hA hB A B) | (refine onV_if ?_ ?_; (focus (first | omega | (refine ⟨?_, ?_⟩ <;> omega))); simp only [onV_s]; refine hA _ _ _ ?_ (by first | exact .inl rfl | exact .inr (by decide)) ?_; (focus (first | (simp [FG, FF, FE, Sm.cs, hn, ha, hb, hj]; done) | (simp [FG, FF, FE, Sm.cs, hn, ha, hb, hj]; omega))); clear hA hB A B))
    | refine WP.sr fun k hk => ?_ | refine WP.r fun k hk => ?_
    | refine WP.sd _ rfl fun k hk => ?_ | refine WP.d _ rfl fun k hk => ?_
    | (refine WP.cc fun A B hA hB => ?_; simp [FG, FF, FE, Sm.cs, hn, ha, hb, hj, onB_t, onB_f]; first | (refine hA ?_; clear hA hB A B) | (refine hB ?_; clear hA hB A B) | (refine onB_if (fun h => hA ?_) (fun h => hB ?_) <;> clear hA hB A B))
    | refine WP.q ?_ | refine WP.b ?_)
  simp [lineS, wordsL]
theorem ft_words (hG : GW K gw) (m : Sm) (hm : okW m = true) : FT (env K gw) NoW 26 [.agg m.cs] s (.str (lineS m)) s := by
  simp only [okW, Bool.and_eq_true, decide_eq_true_eq] at hm
  obtain ⟨⟨⟨⟨⟨⟨hx, hy⟩, hz⟩, ho⟩, hn⟩, ha⟩, hb⟩ := hm
  obtain ⟨k, x, y, z, o, n, a, b⟩ := m
  simp only at hx hy hz ho hn ha hb
  by_cases h1 : k = 1
  · subst h1; exact ft_words1 hG x y z o n a b hx hy hz ho hn ha hb
  have q1 : (k == 1) = false := by simpa using h1
  by_cases h2 : k = 2
  · subst h2; exact ft_words2 hG x y z o n a b hx hy hz ho hn ha hb
  have q2 : (k == 2) = false := by simpa using h2
  by_cases h3 : k = 3
  · subst h3; exact ft_words3 hG x y z o n a b hx hy hz ho hn ha hb
  have q3 : (k == 3) = false := by simpa using h3
  by_cases h4 : k = 4
  · subst h4; exact ft_words4 hG x y z o n a b hx hy hz ho hn ha hb
  have q4 : (k == 4) = false := by simpa using h4
  by_cases h5 : k = 5
  · subst h5; exact ft_words5 hG x y z o n a b hx hy hz ho hn ha hb
  have q5 : (k == 5) = false := by simpa using h5
  by_cases h6 : k = 6
  · subst h6; exact ft_words6 hG x y z o n a b hx hy hz ho hn ha hb
  have q6 : (k == 6) = false := by simpa using h6
  by_cases h7 : k = 7
  · subst h7; exact ft_words7 hG x y z o n a b hx hy hz ho hn ha hb
  have q7 : (k == 7) = false := by simpa using h7
  by_cases h8 : k = 8
  · subst h8; exact ft_words8 hG x y z o n a b hx hy hz ho hn ha hb
  have q8 : (k == 8) = false := by simpa using h8
  refine FT.pure (fn := Tryd.f26) (FG_ok hG) mixed Tryd.func26 (by kernel_rfl) (by rfl) rfl rfl (by simp) rfl fun μ w => ?_
  repeat' (first
    | refine WP.t ?_ | refine WP.k ?_ | refine WP.e ?_ | refine Qn ?_ | refine Qr ?_ | refine Qe ?_ | refine Bn ?_ | refine Br ?_ | refine Be ?_ | refine Bx (by decide) ?_
    | (refine RS.nl ?_; refine hk _ _ ?_; clear hk k)
    | (refine RS.st fun A B hA hB => ?_; simp [Sm.cs, q1, q2, q3, q4, q5, q6, q7, q8, onW_t, onW_f, onV_s]; first | (refine hA _ _ _ ?_ ?_; (focus (first | (simp [Sm.cs, q1, q2, q3, q4, q5, q6, q7, q8]; done) | (simp [Sm.cs, q1, q2, q3, q4, q5, q6, q7, q8]; omega))); clear hA hB A B) | (refine hB ?_; clear hA hB A B) | (refine onV_if ?_ ?_; (focus (first | omega | (refine ⟨?_, ?_⟩ <;> omega))); simp only [onV_s]; refine hA _ _ _ ?_ ?_; (focus (first | (simp [Sm.cs, q1, q2, q3, q4, q5, q6, q7, q8]; done) | (simp [Sm.cs, q1, q2, q3, q4, q5, q6, q7, q8]; omega))); clear hA hB A B))
    | (refine RQ.nl ?_; refine hk _ _ ?_; clear hk k)
    | (refine RQ.st fun A B hA hB => ?_; simp [Sm.cs, q1, q2, q3, q4, q5, q6, q7, q8, onW_t, onW_f, onV_s]; first | (refine hA _ _ _ ?_ (by first | exact .inl rfl | exact .inr (by decide)) ?_; (focus (first | (simp [Sm.cs, q1, q2, q3, q4, q5, q6, q7, q8]; done) | (simp [Sm.cs, q1, q2, q3, q4, q5, q6, q7, q8]; omega))); clear hA hB A B) | (refine hB ?_; clear hA hB A B) | (refine onV_if ?_ ?_; (focus (first | omega | (refine ⟨?_, ?_⟩ <;> omega))); simp only [onV_s]; refine hA _ _ _ ?_ (by first | exact .inl rfl | exact .inr (by decide)) ?_; (focus (first | (simp [Sm.cs, q1, q2, q3, q4, q5, q6, q7, q8]; done) | (simp [Sm.cs, q1, q2, q3, q4, q5, q6, q7, q8]; omega))); clear hA hB A B))
    | refine WP.sr fun k hk => ?_ | refine WP.r fun k hk => ?_
    | refine WP.sd _ rfl fun k hk => ?_ | refine WP.d _ rfl fun k hk => ?_
    | (refine WP.cc fun A B hA hB => ?_; simp [Sm.cs, q1, q2, q3, q4, q5, q6, q7, q8, onB_t, onB_f]; first | (refine hA ?_; clear hA hB A B) | (refine hB ?_; clear hA hB A B) | (refine onB_if (fun h => hA ?_) (fun h => hB ?_) <;> clear hA hB A B))
    | refine WP.q ?_ | refine WP.b ?_)
  simp [lineS, wordsL, Lib.join_one, h1, h2, h3, h4, h5, h6, h7, h8]
def FH : Fns := FG.a1 26 (vAgg cSm) fun m => if okW m = true then some (.str (lineS m)) else none
theorem FH_ok (hG : GW K gw) : FOk (env K gw) FH := (FG_ok hG).a1 fun m s r h => by split at h <;> cases h; exact ft_words hG m ‹_›
/-- Are words as a pattern has them? -/
def likeB : List Str → List Str → Bool
  | [], [] => true
  | x :: w, p :: q => (p.isEmpty || p == x) && likeB w q
  | _, _ => false
theorem likeB_len : ∀ {w p : List Str}, likeB w p = true → w.length = p.length
  | [], [], _ => rfl
  | x :: w, p :: q, h => by
    simp only [likeB, Bool.and_eq_true] at h
    simp [likeB_len h.2]
  | [], _ :: _, h => by cases h
  | _ :: _, [], h => by cases h
theorem likeB_drop {w p : List Str} {i : Nat} (hw : i < w.length) (hp : i < p.length) : likeB (w.drop i) (p.drop i) = ((p[i].isEmpty || p[i] == w[i]) && likeB (w.drop (i + 1)) (p.drop (i + 1))) := by
  rw [List.drop_eq_getElem_cons hw, List.drop_eq_getElem_cons hp]; rfl
theorem ft_like (v p : List Str) (hw : v.length < LIM) (hp : p.length < LIM) : FT (env K gw) NoW 42 [.sl (v.map sc), .sl (p.map sc)] s (.bool (likeB v p)) s := by
  refine FT.pure (fn := Tryd.f42) F0_ok mixed Tryd.func42 (by kernel_rfl) (by rfl) rfl rfl (by simp) rfl fun μ w => ?_
  by_cases hl : v.length = p.length
  · skip
    repeat' (first
      | refine WP.t ?_ | refine WP.k ?_ | refine WP.e ?_ | refine Qn ?_ | refine Qr ?_ | refine Qe ?_ | refine Bn ?_ | refine Br ?_ | refine Be ?_ | refine Bx (by decide) ?_
      | (refine RS.nl ?_; refine hk _ _ ?_; clear hk k)
      | (refine RS.st fun A B hA hB => ?_; simp [hl, onW_t, onW_f, onV_s]; first | (refine hA _ _ _ ?_ ?_; (focus (first | (simp [hl]; done) | (simp [hl]; omega))); clear hA hB A B) | (refine hB ?_; clear hA hB A B) | (refine onV_if ?_ ?_; (focus (first | omega | (refine ⟨?_, ?_⟩ <;> omega))); simp only [onV_s]; refine hA _ _ _ ?_ ?_; (focus (first | (simp [hl]; done) | (simp [hl]; omega))); clear hA hB A B))
      | (refine RQ.nl ?_; refine hk _ _ ?_; clear hk k)
      | (refine RQ.st fun A B hA hB => ?_; simp [hl, onW_t, onW_f, onV_s]; first | (refine hA _ _ _ ?_ (by first | exact .inl rfl | exact .inr (by decide)) ?_; (focus (first | (simp [hl]; done) | (simp [hl]; omega))); clear hA hB A B) | (refine hB ?_; clear hA hB A B) | (refine onV_if ?_ ?_; (focus (first | omega | (refine ⟨?_, ?_⟩ <;> omega))); simp only [onV_s]; refine hA _ _ _ ?_ (by first | exact .inl rfl | exact .inr (by decide)) ?_; (focus (first | (simp [hl]; done) | (simp [hl]; omega))); clear hA hB A B))
      | refine WP.sr fun k hk => ?_ | refine WP.r fun k hk => ?_
      | refine WP.sd _ rfl fun k hk => ?_ | refine WP.d _ rfl fun k hk => ?_
      | (refine WP.cc fun A B hA hB => ?_; simp [hl, onB_t, onB_f]; first | (refine hA ?_; clear hA hB A B) | (refine hB ?_; clear hA hB A B) | (refine onB_if (fun h => hA ?_) (fun h => hB ?_) <;> clear hA hB A B))
      | refine WP.q ?_ | refine WP.b ?_)
    refine WP_loopS (fun i : Nat => [(0, .sl (v.map sc)), (12, .sl (p.map sc)), (13, .int .i64 p.length), (14, .int .i64 i)]) (fun i s' => i ≤ p.length ∧ s' = s ∧ likeB v p = likeB (v.drop i) (p.drop i)) (fun i => p.length - i) 0 (by simp) ⟨by omega, rfl, rfl⟩ ?_
    rintro i _ ⟨hi, rfl, ht⟩
    by_cases hi2 : i < p.length
    · have hi3 : i < v.length := by omega
      have hx : p[i]? = some p[i] := List.getElem?_eq_getElem hi2
      have hy : v[i]? = some v[i] := List.getElem?_eq_getElem hi3
      rw [likeB_drop hi3 hi2] at ht
      have hw1 := wrap_succ hi2 hp
      generalize hx2 : p[i] = x at *
      generalize hy2 : v[i] = y at *
      cases he : x.isEmpty
      · cases hq : (x == y)
        · skip
          repeat' (first
            | refine WP.t ?_ | refine WP.k ?_ | refine WP.e ?_ | refine Qn ?_ | refine Qr ?_ | refine Qe ?_ | refine Bn ?_ | refine Br ?_ | refine Be ?_ | refine Bx (by decide) ?_
            | (refine RS.nl ?_; refine hk _ _ ?_; clear hk k)
            | (refine RS.st fun A B hA hB => ?_; simp [hi2, hi3, hx, hy, hx2, hy2, he, hq, sc, onW_t, onW_f, onV_s]; first | (refine hA _ _ _ ?_ ?_; (focus (first | (simp [hi2, hi3, hx, hy, hx2, hy2, he, hq, sc]; done) | (simp [hi2, hi3, hx, hy, hx2, hy2, he, hq, sc]; omega))); clear hA hB A B) | (refine hB ?_; clear hA hB A B) | (refine onV_if ?_ ?_; (focus (first | omega | (refine ⟨?_, ?_⟩ <;> omega))); simp only [onV_s]; refine hA _ _ _ ?_ ?_; (focus (first | (simp [hi2, hi3, hx, hy, hx2, hy2, he, hq, sc]; done) | (simp [hi2, hi3, hx, hy, hx2, hy2, he, hq, sc]; omega))); clear hA hB A B))
            | (refine RQ.nl ?_; refine hk _ _ ?_; clear hk k)
            | (refine RQ.st fun A B hA hB => ?_; simp [hi2, hi3, hx, hy, hx2, hy2, he, hq, sc, onW_t, onW_f, onV_s]; first | (refine hA _ _ _ ?_ (by first | exact .inl rfl | exact .inr (by decide)) ?_; (focus (first | (simp [hi2, hi3, hx, hy, hx2, hy2, he, hq, sc]; done) | (simp [hi2, hi3, hx, hy, hx2, hy2, he, hq, sc]; omega))); clear hA hB A B) | (refine hB ?_; clear hA hB A B) | (refine onV_if ?_ ?_; (focus (first | omega | (refine ⟨?_, ?_⟩ <;> omega))); simp only [onV_s]; refine hA _ _ _ ?_ (by first | exact .inl rfl | exact .inr (by decide)) ?_; (focus (first | (simp [hi2, hi3, hx, hy, hx2, hy2, he, hq, sc]; done) | (simp [hi2, hi3, hx, hy, hx2, hy2, he, hq, sc]; omega))); clear hA hB A B))
            | refine WP.sr fun k hk => ?_ | refine WP.r fun k hk => ?_
            | refine WP.sd _ rfl fun k hk => ?_ | refine WP.d _ rfl fun k hk => ?_
            | (refine WP.cc fun A B hA hB => ?_; simp [hi2, hi3, hx, hy, hx2, hy2, he, hq, sc, onB_t, onB_f]; first | (refine hA ?_; clear hA hB A B) | (refine hB ?_; clear hA hB A B) | (refine onB_if (fun h => hA ?_) (fun h => hB ?_) <;> clear hA hB A B))
            | refine WP.q ?_ | refine WP.b ?_)
          simp [ht, he, hq]
        · skip
          repeat' (first
            | refine WP.t ?_ | refine WP.k ?_ | refine WP.e ?_ | refine Qn ?_ | refine Qr ?_ | refine Qe ?_ | refine Bn ?_ | refine Br ?_ | refine Be ?_ | refine Bx (by decide) ?_
            | (refine RS.nl ?_; refine hk _ _ ?_; clear hk k)
            | (refine RS.st fun A B hA hB => ?_; simp [hi2, hi3, hx, hy, hx2, hy2, he, hq, sc, hw1, onW_t, onW_f, onV_s]; first | (refine hA _ _ _ ?_ ?_; (focus (first | (simp [hi2, hi3, hx, hy, hx2, hy2, he, hq, sc, hw1]; done) | (simp [hi2, hi3, hx, hy, hx2, hy2, he, hq, sc, hw1]; omega))); clear hA hB A B) | (refine hB ?_; clear hA hB A B) | (refine onV_if ?_ ?_; (focus (first | omega | (refine ⟨?_, ?_⟩ <;> omega))); simp only [onV_s]; refine hA _ _ _ ?_ ?_; (focus (first | (simp [hi2, hi3, hx, hy, hx2, hy2, he, hq, sc, hw1]; done) | (simp [hi2, hi3, hx, hy, hx2, hy2, he, hq, sc, hw1]; omega))); clear hA hB A B))
            | (refine RQ.nl ?_; refine hk _ _ ?_; clear hk k)
            | (refine RQ.st fun A B hA hB => ?_; simp [hi2, hi3, hx, hy, hx2, hy2, he, hq, sc, hw1, onW_t, onW_f, onV_s]; first | (refine hA _ _ _ ?_ (by first | exact .inl rfl | exact .inr (by decide)) ?_; (focus (first | (simp [hi2, hi3, hx, hy, hx2, hy2, he, hq, sc, hw1]; done) | (simp [hi2, hi3, hx, hy, hx2, hy2, he, hq, sc, hw1]; omega))); clear hA hB A B) | (refine hB ?_; clear hA hB A B) | (refine onV_if ?_ ?_; (focus (first | omega | (refine ⟨?_, ?_⟩ <;> omega))); simp only [onV_s]; refine hA _ _ _ ?_ (by first | exact .inl rfl | exact .inr (by decide)) ?_; (focus (first | (simp [hi2, hi3, hx, hy, hx2, hy2, he, hq, sc, hw1]; done) | (simp [hi2, hi3, hx, hy, hx2, hy2, he, hq, sc, hw1]; omega))); clear hA hB A B))
            | refine WP.sr fun k hk => ?_ | refine WP.r fun k hk => ?_
            | refine WP.sd _ rfl fun k hk => ?_ | refine WP.d _ rfl fun k hk => ?_
            | (refine WP.cc fun A B hA hB => ?_; simp [hi2, hi3, hx, hy, hx2, hy2, he, hq, sc, hw1, onB_t, onB_f]; first | (refine hA ?_; clear hA hB A B) | (refine hB ?_; clear hA hB A B) | (refine onB_if (fun h => hA ?_) (fun h => hB ?_) <;> clear hA hB A B))
            | refine WP.q ?_ | refine WP.b ?_)
          exact ⟨i + 1, by omega, by simp, by omega, rfl, by rw [ht, he, hq]; rfl⟩
      · skip
        repeat' (first
          | refine WP.t ?_ | refine WP.k ?_ | refine WP.e ?_ | refine Qn ?_ | refine Qr ?_ | refine Qe ?_ | refine Bn ?_ | refine Br ?_ | refine Be ?_ | refine Bx (by decide) ?_
          | (refine RS.nl ?_; refine hk _ _ ?_; clear hk k)
          | (refine RS.st fun A B hA hB => ?_; simp [hi2, hi3, hx, hy, hx2, hy2, he, sc, hw1, onW_t, onW_f, onV_s]; first | (refine hA _ _ _ ?_ ?_; (focus (first | (simp [hi2, hi3, hx, hy, hx2, hy2, he, sc, hw1]; done) | (simp [hi2, hi3, hx, hy, hx2, hy2, he, sc, hw1]; omega))); clear hA hB A B) | (refine hB ?_; clear hA hB A B) | (refine onV_if ?_ ?_; (focus (first | omega | (refine ⟨?_, ?_⟩ <;> omega))); simp only [onV_s]; refine hA _ _ _ ?_ ?_; (focus (first | (simp [hi2, hi3, hx, hy, hx2, hy2, he, sc, hw1]; done) | (simp [hi2, hi3, hx, hy, hx2, hy2, he, sc, hw1]; omega))); clear hA hB A B))
          | (refine RQ.nl ?_; refine hk _ _ ?_; clear hk k)
          | (refine RQ.st fun A B hA hB => ?_; simp [hi2, hi3, hx, hy, hx2, hy2, he, sc, hw1, onW_t, onW_f, onV_s]; first | (refine hA _ _ _ ?_ (by first | exact .inl rfl | exact .inr (by decide)) ?_; (focus (first | (simp [hi2, hi3, hx, hy, hx2, hy2, he, sc, hw1]; done) | (simp [hi2, hi3, hx, hy, hx2, hy2, he, sc, hw1]; omega))); clear hA hB A B) | (refine hB ?_; clear hA hB A B) | (refine onV_if ?_ ?_; (focus (first | omega | (refine ⟨?_, ?_⟩ <;> omega))); simp only [onV_s]; refine hA _ _ _ ?_ (by first | exact .inl rfl | exact .inr (by decide)) ?_; (focus (first | (simp [hi2, hi3, hx, hy, hx2, hy2, he, sc, hw1]; done) | (simp [hi2, hi3, hx, hy, hx2, hy2, he, sc, hw1]; omega))); clear hA hB A B))
          | refine WP.sr fun k hk => ?_ | refine WP.r fun k hk => ?_
          | refine WP.sd _ rfl fun k hk => ?_ | refine WP.d _ rfl fun k hk => ?_
          | (refine WP.cc fun A B hA hB => ?_; simp [hi2, hi3, hx, hy, hx2, hy2, he, sc, hw1, onB_t, onB_f]; first | (refine hA ?_; clear hA hB A B) | (refine hB ?_; clear hA hB A B) | (refine onB_if (fun h => hA ?_) (fun h => hB ?_) <;> clear hA hB A B))
          | refine WP.q ?_ | refine WP.b ?_)
        exact ⟨i + 1, by omega, by simp, by omega, rfl, by rw [ht, he]; rfl⟩
    · skip
      repeat' (first
        | refine WP.t ?_ | refine WP.k ?_ | refine WP.e ?_ | refine Qn ?_ | refine Qr ?_ | refine Qe ?_ | refine Bn ?_ | refine Br ?_ | refine Be ?_ | refine Bx (by decide) ?_
        | (refine RS.nl ?_; refine hk _ _ ?_; clear hk k)
        | (refine RS.st fun A B hA hB => ?_; simp [hi2, onW_t, onW_f, onV_s]; first | (refine hA _ _ _ ?_ ?_; (focus (first | (simp [hi2]; done) | (simp [hi2]; omega))); clear hA hB A B) | (refine hB ?_; clear hA hB A B) | (refine onV_if ?_ ?_; (focus (first | omega | (refine ⟨?_, ?_⟩ <;> omega))); simp only [onV_s]; refine hA _ _ _ ?_ ?_; (focus (first | (simp [hi2]; done) | (simp [hi2]; omega))); clear hA hB A B))
        | (refine RQ.nl ?_; refine hk _ _ ?_; clear hk k)
        | (refine RQ.st fun A B hA hB => ?_; simp [hi2, onW_t, onW_f, onV_s]; first | (refine hA _ _ _ ?_ (by first | exact .inl rfl | exact .inr (by decide)) ?_; (focus (first | (simp [hi2]; done) | (simp [hi2]; omega))); clear hA hB A B) | (refine hB ?_; clear hA hB A B) | (refine onV_if ?_ ?_; (focus (first | omega | (refine ⟨?_, ?_⟩ <;> omega))); simp only [onV_s]; refine hA _ _ _ ?_ (by first | exact .inl rfl | exact .inr (by decide)) ?_; (focus (first | (simp [hi2]; done) | (simp [hi2]; omega))); clear hA hB A B))
        | refine WP.sr fun k hk => ?_ | refine WP.r fun k hk => ?_
        | refine WP.sd _ rfl fun k hk => ?_ | refine WP.d _ rfl fun k hk => ?_
        | (refine WP.cc fun A B hA hB => ?_; simp [hi2, onB_t, onB_f]; first | (refine hA ?_; clear hA hB A B) | (refine hB ?_; clear hA hB A B) | (refine onB_if (fun h => hA ?_) (fun h => hB ?_) <;> clear hA hB A B))
        | refine WP.q ?_ | refine WP.b ?_)
      rw [List.drop_of_length_le (by omega), List.drop_of_length_le (by omega)] at ht
      simp [ht, likeB]
  · have h' : ((v.length : Int) != (p.length : Int)) = true := by rw [bne_iff_ne]; omega
    have hf : likeB v p = false := by
      cases h : likeB v p
      · rfl
      · exact absurd (likeB_len h) hl
    repeat' (first
      | refine WP.t ?_ | refine WP.k ?_ | refine WP.e ?_ | refine Qn ?_ | refine Qr ?_ | refine Qe ?_ | refine Bn ?_ | refine Br ?_ | refine Be ?_ | refine Bx (by decide) ?_
      | (refine RS.nl ?_; refine hk _ _ ?_; clear hk k)
      | (refine RS.st fun A B hA hB => ?_; simp [h', onW_t, onW_f, onV_s]; first | (refine hA _ _ _ ?_ ?_; (focus (first | (simp [h']; done) | (simp [h']; omega))); clear hA hB A B) | (refine hB ?_; clear hA hB A B) | (refine onV_if ?_ ?_; (focus (first | omega | (refine ⟨?_, ?_⟩ <;> omega))); simp only [onV_s]; refine hA _ _ _ ?_ ?_; (focus (first | (simp [h']; done) | (simp [h']; omega))); clear hA hB A B))
      | (refine RQ.nl ?_; refine hk _ _ ?_; clear hk k)
      | (refine RQ.st fun A B hA hB => ?_; simp [h', onW_t, onW_f, onV_s]; first | (refine hA _ _ _ ?_ (by first | exact .inl rfl | exact .inr (by decide)) ?_; (focus (first | (simp [h']; done) | (simp [h']; omega))); clear hA hB A B) | (refine hB ?_; clear hA hB A B) | (refine onV_if ?_ ?_; (focus (first | omega | (refine ⟨?_, ?_⟩ <;> omega))); simp only [onV_s]; refine hA _ _ _ ?_ (by first | exact .inl rfl | exact .inr (by decide)) ?_; (focus (first | (simp [h']; done) | (simp [h']; omega))); clear hA hB A B))
      | refine WP.sr fun k hk => ?_ | refine WP.r fun k hk => ?_
      | refine WP.sd _ rfl fun k hk => ?_ | refine WP.d _ rfl fun k hk => ?_
      | (refine WP.cc fun A B hA hB => ?_; simp [h', onB_t, onB_f]; first | (refine hA ?_; clear hA hB A B) | (refine hB ?_; clear hA hB A B) | (refine onB_if (fun h => hA ?_) (fun h => hB ?_) <;> clear hA hB A B))
      | refine WP.q ?_ | refine WP.b ?_)
    simp [hf]
end
end Go.Am
namespace Go.Am
open Go.Proofs Go.Shelf
section
variable {K : Nat} {gw : World} {s : St}
attribute [local simp] awanted xop zOf zrow aop ev T0 Slots.put Slots.set Slots.get awr WOk AV.may ofConst abinop aint isConst St.get_push St.get_put St.live AV.fit AV.cells AV.one fieldOf afieldAddr aload ofCells astore splice May eqres env_ti FinP FinZ FinW ares aresL ares1 Fns.addP Fns.add Fns.a0 Fns.a1 Fns.a2 Fns.a3 Fns.a4 abuiltin alenOk alen aindex elemOfT elemId abuildSlice afill chunks ard aappend isSS AV.isStr aminmax placesOf abuild afield aidx isStrD isStrDesc astrop aslice asliceOk abound arange anext aextract aunop aeq AV.ck avseq aveq aconv aconvert onB_t onB_f List.range_succ ti0 ti1 ti2 ti3 ti4 ti5 ti6 ti7 ti8 ti9 ti10 ti11 ti12 ti13 ti14 ti15 ti16 ti17 ti18 ti19 ti20 ti21 ti22 ti23 ti24 ti25 ti26 ti27 ti28 ti29 ti30 ti31 ti32 ti33 ti34 ti35 ti36 ti37 ti38 ti39 ti40 ti41 ti42 ti43 ti44 ti45 ti46 ti47 ti48 ti49 ti50 ti51 ti52 ti53 ti54 ti55 ti56 ti57 ti58 ti59 ti60 ti61 ti62 ti63 ti64 ti65 ti66 ti67 ti68 ti69 ti70 ti71 ti72 ti73 ti74 ti75 ti76 ti77 ti78 ti79 ti80 ti81 ti82 ti83 ti84 ti85 ti86 ti87 ti88 ti89 ti90 ti91 ti92 ti93 ti94 ti95 ti96 ti97 ti98 ti99 ti100 ti101
def FI : Fns := FH.a2 42 (vSl cStr) (vSl cStr) fun w p => if w.length < LIM ∧ p.length < LIM then some (.bool (likeB w p)) else none
theorem FI_ok (hG : GW K gw) : FOk (env K gw) FI := (FH_ok hG).a2 fun w p s r h => by split at h <;> cases h; rename_i h; exact ft_like w p h.1 h.2
def toldS (w : List Str) : Sm :=
  if likeB w [kSink, []] then ⟨6, [], w.getD 1 [], [], [], 0, 0, 0⟩
  else if likeB w [kBranch, [], [], []] then ⟨7, [], w.getD 1 [], [], [], 0, numI (w.getD 2 []), numI (w.getD 3 [])⟩
  else if likeB w [kJump, []] then ⟨8, [], [], [], [], 0, numI (w.getD 1 []), 0⟩
  else if likeB w [kReturn] then ⟨9, [], [], [], [], 0, 0, 0⟩
  else if likeB w [[], [61], kSource] then ⟨4, w.getD 0 [], [], [], [], 0, 0, 0⟩
  else if likeB w [[], [61], kClean, []] then ⟨5, w.getD 0 [], w.getD 3 [], [], [], 0, 0, 0⟩
  else if likeB w [[], [61], [], [], []] then ⟨2, w.getD 0 [], w.getD 2 [], w.getD 4 [], w.getD 3 [], 0, 0, 0⟩
  else if likeB w [[], [61], []] && nameB (w.getD 2 []) then ⟨3, w.getD 0 [], w.getD 2 [], [], [], 0, 0, 0⟩
  else if likeB w [[], [61], []] then ⟨1, w.getD 0 [], [], [], [], numI (w.getD 2 []), 0, 0⟩
  else ⟨0, [], [], [], [], 0, 0, 0⟩
theorem len1 {w : List Str} {p : Str} (h : likeB w [p] = true) : ∃ a, w = [a] := List.length_eq_one_iff.1 (likeB_len h)
theorem len2 {w : List Str} {p q : Str} (h : likeB w [p, q] = true) : ∃ a b, w = [a, b] := by
  match w, likeB_len h with
  | [a, b], _ => exact ⟨a, b, rfl⟩
theorem len3 {w : List Str} {p q r : Str} (h : likeB w [p, q, r] = true) : ∃ a b c, w = [a, b, c] := by
  match w, likeB_len h with
  | [a, b, c], _ => exact ⟨a, b, c, rfl⟩
theorem len4 {w : List Str} {p q r t : Str} (h : likeB w [p, q, r, t] = true) : ∃ a b c d, w = [a, b, c, d] := by
  match w, likeB_len h with
  | [a, b, c, d], _ => exact ⟨a, b, c, d, rfl⟩
theorem len5 {w : List Str} {p q r t u : Str} (h : likeB w [p, q, r, t, u] = true) : ∃ a b c d e, w = [a, b, c, d, e] := by
  match w, likeB_len h with
  | [a, b, c, d, e], _ => exact ⟨a, b, c, d, e, rfl⟩
set_option maxHeartbeats 2000000 in
theorem ft_told (hG : GW K gw) (v : List Str) (hl : v.length < LIM) (hs : ∀ x ∈ v, x.length ≤ 100000000) : FT (env K gw) NoW 23 [.sl (v.map sc)] s (.agg (toldS v).cs) s := by
  refine FT.pure (fn := Tryd.f23) (FI_ok hG) mixed Tryd.func23 (by kernel_rfl) (by rfl) rfl rfl (by simp) rfl fun μ w => ?_
  have hs2 : ∀ x ∈ v, x.length < LIM := fun x hx => by have := hs x hx; simp only [LIM]; omega
  cases h1 : likeB v [kSink, []]
  case true =>
    obtain ⟨p, q, rfl⟩ := len2 h1
    repeat' (first
      | refine WP.t ?_ | refine WP.k ?_ | refine WP.e ?_ | refine Qn ?_ | refine Qr ?_ | refine Qe ?_ | refine Bn ?_ | refine Br ?_ | refine Be ?_ | refine Bx (by decide) ?_
      | (refine RS.nl ?_; refine hk _ _ ?_; clear hk k)
      | (refine RS.st fun A B hA hB => ?_; simp [FI, FH, FG, FF, FE, FD, hl, h1, sc, onW_t, onW_f, onV_s]; first | (refine hA _ _ _ ?_ ?_; (focus (first | (simp [FI, FH, FG, FF, FE, FD, hl, h1, sc]; done) | (simp [FI, FH, FG, FF, FE, FD, hl, h1, sc]; omega))); clear hA hB A B) | (refine hB ?_; clear hA hB A B) | (refine onV_if ?_ ?_; (focus (first | omega | (refine ⟨?_, ?_⟩ <;> omega))); simp only [onV_s]; refine hA _ _ _ ?_ ?_; (focus (first | (simp [FI, FH, FG, FF, FE, FD, hl, h1, sc]; done) | (simp [FI, FH, FG, FF, FE, FD, hl, h1, sc]; omega))); clear hA hB A B))
      | (refine RQ.nl ?_; refine hk _ _ ?_; clear hk k)
      | (refine RQ.st fun A B hA hB => ?_; simp [FI, FH, FG, FF, FE, FD, hl, h1, sc, onW_t, onW_f, onV_s]; first | (refine hA _ _ _ ?_ (by first | exact .inl rfl | exact .inr (by decide)) ?_; (focus (first | (simp [FI, FH, FG, FF, FE, FD, hl, h1, sc]; done) | (simp [FI, FH, FG, FF, FE, FD, hl, h1, sc]; omega))); clear hA hB A B) | (refine hB ?_; clear hA hB A B) | (refine onV_if ?_ ?_; (focus (first | omega | (refine ⟨?_, ?_⟩ <;> omega))); simp only [onV_s]; refine hA _ _ _ ?_ (by first | exact .inl rfl | exact .inr (by decide)) ?_; (focus (first | (simp [FI, FH, FG, FF, FE, FD, hl, h1, sc]; done) | (simp [FI, FH, FG, FF, FE, FD, hl, h1, sc]; omega))); clear hA hB A B))
      | refine WP.sr fun k hk => ?_ | refine WP.r fun k hk => ?_
      | refine WP.sd _ rfl fun k hk => ?_ | refine WP.d _ rfl fun k hk => ?_
      | (refine WP.cc fun A B hA hB => ?_; simp [FI, FH, FG, FF, FE, FD, hl, h1, sc, onB_t, onB_f]; first | (refine hA ?_; clear hA hB A B) | (refine hB ?_; clear hA hB A B) | (refine onB_if (fun h => hA ?_) (fun h => hB ?_) <;> clear hA hB A B))
      | refine WP.q ?_ | refine WP.b ?_)
    simp [toldS, h1, Sm.cs]
  cases h2 : likeB v [kBranch, [], [], []]
  case true =>
    obtain ⟨p, q, r, t, rfl⟩ := len4 h2
    have n1 : r.length ≤ 100000000 := hs r (by simp)
    have n2 : t.length ≤ 100000000 := hs t (by simp)
    repeat' (first
      | refine WP.t ?_ | refine WP.k ?_ | refine WP.e ?_ | refine Qn ?_ | refine Qr ?_ | refine Qe ?_ | refine Bn ?_ | refine Br ?_ | refine Be ?_ | refine Bx (by decide) ?_
      | (refine RS.nl ?_; refine hk _ _ ?_; clear hk k)
      | (refine RS.st fun A B hA hB => ?_; simp [FI, FH, FG, FF, FE, FD, hl, h1, h2, sc, n1, n2, onW_t, onW_f, onV_s]; first | (refine hA _ _ _ ?_ ?_; (focus (first | (simp [FI, FH, FG, FF, FE, FD, hl, h1, h2, sc, n1, n2]; done) | (simp [FI, FH, FG, FF, FE, FD, hl, h1, h2, sc, n1, n2]; omega))); clear hA hB A B) | (refine hB ?_; clear hA hB A B) | (refine onV_if ?_ ?_; (focus (first | omega | (refine ⟨?_, ?_⟩ <;> omega))); simp only [onV_s]; refine hA _ _ _ ?_ ?_; (focus (first | (simp [FI, FH, FG, FF, FE, FD, hl, h1, h2, sc, n1, n2]; done) | (simp [FI, FH, FG, FF, FE, FD, hl, h1, h2, sc, n1, n2]; omega))); clear hA hB A B))
      | (refine RQ.nl ?_; refine hk _ _ ?_; clear hk k)
      | (refine RQ.st fun A B hA hB => ?_; simp [FI, FH, FG, FF, FE, FD, hl, h1, h2, sc, n1, n2, onW_t, onW_f, onV_s]; first | (refine hA _ _ _ ?_ (by first | exact .inl rfl | exact .inr (by decide)) ?_; (focus (first | (simp [FI, FH, FG, FF, FE, FD, hl, h1, h2, sc, n1, n2]; done) | (simp [FI, FH, FG, FF, FE, FD, hl, h1, h2, sc, n1, n2]; omega))); clear hA hB A B) | (refine hB ?_; clear hA hB A B) | (refine onV_if ?_ ?_; (focus (first | omega | (refine ⟨?_, ?_⟩ <;> omega))); simp only [onV_s]; refine hA _ _ _ ?_ (by first | exact .inl rfl | exact .inr (by decide)) ?_; (focus (first | (simp [FI, FH, FG, FF, FE, FD, hl, h1, h2, sc, n1, n2]; done) | (simp [FI, FH, FG, FF, FE, FD, hl, h1, h2, sc, n1, n2]; omega))); clear hA hB A B))
      | refine WP.sr fun k hk => ?_ | refine WP.r fun k hk => ?_
      | refine WP.sd _ rfl fun k hk => ?_ | refine WP.d _ rfl fun k hk => ?_
      | (refine WP.cc fun A B hA hB => ?_; simp [FI, FH, FG, FF, FE, FD, hl, h1, h2, sc, n1, n2, onB_t, onB_f]; first | (refine hA ?_; clear hA hB A B) | (refine hB ?_; clear hA hB A B) | (refine onB_if (fun h => hA ?_) (fun h => hB ?_) <;> clear hA hB A B))
      | refine WP.q ?_ | refine WP.b ?_)
    simp [toldS, h1, h2, Sm.cs]
  cases h3 : likeB v [kJump, []]
  case true =>
    obtain ⟨p, q, rfl⟩ := len2 h3
    have n1 : q.length ≤ 100000000 := hs q (by simp)
    repeat' (first
      | refine WP.t ?_ | refine WP.k ?_ | refine WP.e ?_ | refine Qn ?_ | refine Qr ?_ | refine Qe ?_ | refine Bn ?_ | refine Br ?_ | refine Be ?_ | refine Bx (by decide) ?_
      | (refine RS.nl ?_; refine hk _ _ ?_; clear hk k)
      | (refine RS.st fun A B hA hB => ?_; simp [FI, FH, FG, FF, FE, FD, hl, h1, h2, h3, sc, n1, onW_t, onW_f, onV_s]; first | (refine hA _ _ _ ?_ ?_; (focus (first | (simp [FI, FH, FG, FF, FE, FD, hl, h1, h2, h3, sc, n1]; done) | (simp [FI, FH, FG, FF, FE, FD, hl, h1, h2, h3, sc, n1]; omega))); clear hA hB A B) | (refine hB ?_; clear hA hB A B) | (refine onV_if ?_ ?_; (focus (first | omega | (refine ⟨?_, ?_⟩ <;> omega))); simp only [onV_s]; refine hA _ _ _ ?_ ?_; (focus (first | (simp [FI, FH, FG, FF, FE, FD, hl, h1, h2, h3, sc, n1]; done) | (simp [FI, FH, FG, FF, FE, FD, hl, h1, h2, h3, sc, n1]; omega))); clear hA hB A B))
      | (refine RQ.nl ?_; refine hk _ _ ?_; clear hk k)
      | (refine RQ.st fun A B hA hB => ?_; simp [FI, FH, FG, FF, FE, FD, hl, h1, h2, h3, sc, n1, onW_t, onW_f, onV_s]; first | (refine hA _ _ _ ?_ (by first | exact .inl rfl | exact .inr (by decide)) ?_; (focus (first | (simp [FI, FH, FG, FF, FE, FD, hl, h1, h2, h3, sc, n1]; done) | (simp [FI, FH, FG, FF, FE, FD, hl, h1, h2, h3, sc, n1]; omega))); clear hA hB A B) | (refine hB ?_; clear hA hB A B) | (refine onV_if ?_ ?_; (focus (first | omega | (refine ⟨?_, ?_⟩ <;> omega))); simp only [onV_s]; refine hA _ _ _ ?_ (by first | exact .inl rfl | exact .inr (by decide)) ?_; (focus (first | (simp [FI, FH, FG, FF, FE, FD, hl, h1, h2, h3, sc, n1]; done) | (simp [FI, FH, FG, FF, FE, FD, hl, h1, h2, h3, sc, n1]; omega))); clear hA hB A B))
      | refine WP.sr fun k hk => ?_ | refine WP.r fun k hk => ?_
      | refine WP.sd _ rfl fun k hk => ?_ | refine WP.d _ rfl fun k hk => ?_
      | (refine WP.cc fun A B hA hB => ?_; simp [FI, FH, FG, FF, FE, FD, hl, h1, h2, h3, sc, n1, onB_t, onB_f]; first | (refine hA ?_; clear hA hB A B) | (refine hB ?_; clear hA hB A B) | (refine onB_if (fun h => hA ?_) (fun h => hB ?_) <;> clear hA hB A B))
      | refine WP.q ?_ | refine WP.b ?_)
    simp [toldS, h1, h2, h3, Sm.cs]
  cases h4 : likeB v [kReturn]
  case true =>
    obtain ⟨p, rfl⟩ := len1 h4
    repeat' (first
      | refine WP.t ?_ | refine WP.k ?_ | refine WP.e ?_ | refine Qn ?_ | refine Qr ?_ | refine Qe ?_ | refine Bn ?_ | refine Br ?_ | refine Be ?_ | refine Bx (by decide) ?_
      | (refine RS.nl ?_; refine hk _ _ ?_; clear hk k)
      | (refine RS.st fun A B hA hB => ?_; simp [FI, FH, FG, FF, FE, FD, hl, h1, h2, h3, h4, sc, onW_t, onW_f, onV_s]; first | (refine hA _ _ _ ?_ ?_; (focus (first | (simp [FI, FH, FG, FF, FE, FD, hl, h1, h2, h3, h4, sc]; done) | (simp [FI, FH, FG, FF, FE, FD, hl, h1, h2, h3, h4, sc]; omega))); clear hA hB A B) | (refine hB ?_; clear hA hB A B) | (refine onV_if ?_ ?_; (focus (first | omega | (refine ⟨?_, ?_⟩ <;> omega))); simp only [onV_s]; refine hA _ _ _ ?_ ?_; (focus (first | (simp [FI, FH, FG, FF, FE, FD, hl, h1, h2, h3, h4, sc]; done) | (simp [FI, FH, FG, FF, FE, FD, hl, h1, h2, h3, h4, sc]; omega))); clear hA hB A B))
      | (refine RQ.nl ?_; refine hk _ _ ?_; clear hk k)
      | (refine RQ.st fun A B hA hB => ?_; simp [FI, FH, FG, FF, FE, FD, hl, h1, h2, h3, h4, sc, onW_t, onW_f, onV_s]; first | (refine hA _ _ _ ?_ (by first | exact .inl rfl | exact .inr (by decide)) ?_; (focus (first | (simp [FI, FH, FG, FF, FE, FD, hl, h1, h2, h3, h4, sc]; done) | (simp [FI, FH, FG, FF, FE, FD, hl, h1, h2, h3, h4, sc]; omega))); clear hA hB A B) | (refine hB ?_; clear hA hB A B) | (refine onV_if ?_ ?_; (focus (first | omega | (refine ⟨?_, ?_⟩ <;> omega))); simp only [onV_s]; refine hA _ _ _ ?_ (by first | exact .inl rfl | exact .inr (by decide)) ?_; (focus (first | (simp [FI, FH, FG, FF, FE, FD, hl, h1, h2, h3, h4, sc]; done) | (simp [FI, FH, FG, FF, FE, FD, hl, h1, h2, h3, h4, sc]; omega))); clear hA hB A B))
      | refine WP.sr fun k hk => ?_ | refine WP.r fun k hk => ?_
      | refine WP.sd _ rfl fun k hk => ?_ | refine WP.d _ rfl fun k hk => ?_
      | (refine WP.cc fun A B hA hB => ?_; simp [FI, FH, FG, FF, FE, FD, hl, h1, h2, h3, h4, sc, onB_t, onB_f]; first | (refine hA ?_; clear hA hB A B) | (refine hB ?_; clear hA hB A B) | (refine onB_if (fun h => hA ?_) (fun h => hB ?_) <;> clear hA hB A B))
      | refine WP.q ?_ | refine WP.b ?_)
    simp [toldS, h1, h2, h3, h4, Sm.cs]
  cases h5 : likeB v [[], [61], kSource]
  case true =>
    obtain ⟨p, q, r, rfl⟩ := len3 h5
    repeat' (first
      | refine WP.t ?_ | refine WP.k ?_ | refine WP.e ?_ | refine Qn ?_ | refine Qr ?_ | refine Qe ?_ | refine Bn ?_ | refine Br ?_ | refine Be ?_ | refine Bx (by decide) ?_
      | (refine RS.nl ?_; refine hk _ _ ?_; clear hk k)
      | (refine RS.st fun A B hA hB => ?_; simp [FI, FH, FG, FF, FE, FD, hl, h1, h2, h3, h4, h5, sc, onW_t, onW_f, onV_s]; first | (refine hA _ _ _ ?_ ?_; (focus (first | (simp [FI, FH, FG, FF, FE, FD, hl, h1, h2, h3, h4, h5, sc]; done) | (simp [FI, FH, FG, FF, FE, FD, hl, h1, h2, h3, h4, h5, sc]; omega))); clear hA hB A B) | (refine hB ?_; clear hA hB A B) | (refine onV_if ?_ ?_; (focus (first | omega | (refine ⟨?_, ?_⟩ <;> omega))); simp only [onV_s]; refine hA _ _ _ ?_ ?_; (focus (first | (simp [FI, FH, FG, FF, FE, FD, hl, h1, h2, h3, h4, h5, sc]; done) | (simp [FI, FH, FG, FF, FE, FD, hl, h1, h2, h3, h4, h5, sc]; omega))); clear hA hB A B))
      | (refine RQ.nl ?_; refine hk _ _ ?_; clear hk k)
      | (refine RQ.st fun A B hA hB => ?_; simp [FI, FH, FG, FF, FE, FD, hl, h1, h2, h3, h4, h5, sc, onW_t, onW_f, onV_s]; first | (refine hA _ _ _ ?_ (by first | exact .inl rfl | exact .inr (by decide)) ?_; (focus (first | (simp [FI, FH, FG, FF, FE, FD, hl, h1, h2, h3, h4, h5, sc]; done) | (simp [FI, FH, FG, FF, FE, FD, hl, h1, h2, h3, h4, h5, sc]; omega))); clear hA hB A B) | (refine hB ?_; clear hA hB A B) | (refine onV_if ?_ ?_; (focus (first | omega | (refine ⟨?_, ?_⟩ <;> omega))); simp only [onV_s]; refine hA _ _ _ ?_ (by first | exact .inl rfl | exact .inr (by decide)) ?_; (focus (first | (simp [FI, FH, FG, FF, FE, FD, hl, h1, h2, h3, h4, h5, sc]; done) | (simp [FI, FH, FG, FF, FE, FD, hl, h1, h2, h3, h4, h5, sc]; omega))); clear hA hB A B))
      | refine WP.sr fun k hk => ?_ | refine WP.r fun k hk => ?_
      | refine WP.sd _ rfl fun k hk => ?_ | refine WP.d _ rfl fun k hk => ?_
      | (refine WP.cc fun A B hA hB => ?_; simp [FI, FH, FG, FF, FE, FD, hl, h1, h2, h3, h4, h5, sc, onB_t, onB_f]; first | (refine hA ?_; clear hA hB A B) | (refine hB ?_; clear hA hB A B) | (refine onB_if (fun h => hA ?_) (fun h => hB ?_) <;> clear hA hB A B))
      | refine WP.q ?_ | refine WP.b ?_)
    simp [toldS, h1, h2, h3, h4, h5, Sm.cs]
  cases h6 : likeB v [[], [61], kClean, []]
  case true =>
    obtain ⟨p, q, r, t, rfl⟩ := len4 h6
    repeat' (first
      | refine WP.t ?_ | refine WP.k ?_ | refine WP.e ?_ | refine Qn ?_ | refine Qr ?_ | refine Qe ?_ | refine Bn ?_ | refine Br ?_ | refine Be ?_ | refine Bx (by decide) ?_
      | (refine RS.nl ?_; refine hk _ _ ?_; clear hk k)
      | (refine RS.st fun A B hA hB => ?_; simp [FI, FH, FG, FF, FE, FD, hl, h1, h2, h3, h4, h5, h6, sc, onW_t, onW_f, onV_s]; first | (refine hA _ _ _ ?_ ?_; (focus (first | (simp [FI, FH, FG, FF, FE, FD, hl, h1, h2, h3, h4, h5, h6, sc]; done) | (simp [FI, FH, FG, FF, FE, FD, hl, h1, h2, h3, h4, h5, h6, sc]; omega))); clear hA hB A B) | (refine hB ?_; clear hA hB A B) | (refine onV_if ?_ ?_; (focus (first | omega | (refine ⟨?_, ?_⟩ <;> omega))); simp only [onV_s]; refine hA _ _ _ ?_ ?_; (focus (first | (simp [FI, FH, FG, FF, FE, FD, hl, h1, h2, h3, h4, h5, h6, sc]; done) | (simp [FI, FH, FG, FF, FE, FD, hl, h1, h2, h3, h4, h5, h6, sc]; omega))); clear hA hB A B))
      | (refine RQ.nl ?_; refine hk _ _ ?_; clear hk k)
      | (refine RQ.st fun A B hA hB => ?_; simp [FI, FH, FG, FF, FE, FD, hl, h1, h2, h3, h4, h5, h6, sc, onW_t, onW_f, onV_s]; first | (refine hA _ _ _ ?_ (by first | exact .inl rfl | exact .inr (by decide)) ?_; (focus (first | (simp [FI, FH, FG, FF, FE, FD, hl, h1, h2, h3, h4, h5, h6, sc]; done) | (simp [FI, FH, FG, FF, FE, FD, hl, h1, h2, h3, h4, h5, h6, sc]; omega))); clear hA hB A B) | (refine hB ?_; clear hA hB A B) | (refine onV_if ?_ ?_; (focus (first | omega | (refine ⟨?_, ?_⟩ <;> omega))); simp only [onV_s]; refine hA _ _ _ ?_ (by first | exact .inl rfl | exact .inr (by decide)) ?_; (focus (first | (simp [FI, FH, FG, FF, FE, FD, hl, h1, h2, h3, h4, h5, h6, sc]; done) | (simp [FI, FH, FG, FF, FE, FD, hl, h1, h2, h3, h4, h5, h6, sc]; omega))); clear hA hB A B))
      | refine WP.sr fun k hk => ?_ | refine WP.r fun k hk => ?_
      | refine WP.sd _ rfl fun k hk => ?_ | refine WP.d _ rfl fun k hk => ?_
      | (refine WP.cc fun A B hA hB => ?_; simp [FI, FH, FG, FF, FE, FD, hl, h1, h2, h3, h4, h5, h6, sc, onB_t, onB_f]; first | (refine hA ?_; clear hA hB A B) | (refine hB ?_; clear hA hB A B) | (refine onB_if (fun h => hA ?_) (fun h => hB ?_) <;> clear hA hB A B))
      | refine WP.q ?_ | refine WP.b ?_)
    simp [toldS, h1, h2, h3, h4, h5, h6, Sm.cs]
  cases h7 : likeB v [[], [61], [], [], []]
  case true =>
    obtain ⟨p, q, r, t, u, rfl⟩ := len5 h7
    repeat' (first
      | refine WP.t ?_ | refine WP.k ?_ | refine WP.e ?_ | refine Qn ?_ | refine Qr ?_ | refine Qe ?_ | refine Bn ?_ | refine Br ?_ | refine Be ?_ | refine Bx (by decide) ?_
      | (refine RS.nl ?_; refine hk _ _ ?_; clear hk k)
      | (refine RS.st fun A B hA hB => ?_; simp [FI, FH, FG, FF, FE, FD, hl, h1, h2, h3, h4, h5, h6, h7, sc, onW_t, onW_f, onV_s]; first | (refine hA _ _ _ ?_ ?_; (focus (first | (simp [FI, FH, FG, FF, FE, FD, hl, h1, h2, h3, h4, h5, h6, h7, sc]; done) | (simp [FI, FH, FG, FF, FE, FD, hl, h1, h2, h3, h4, h5, h6, h7, sc]; omega))); clear hA hB A B) | (refine hB ?_; clear hA hB A B) | (refine onV_if ?_ ?_; (focus (first | omega | (refine ⟨?_, ?_⟩ <;> omega))); simp only [onV_s]; refine hA _ _ _ ?_ ?_; (focus (first | (simp [FI, FH, FG, FF, FE, FD, hl, h1, h2, h3, h4, h5, h6, h7, sc]; done) | (simp [FI, FH, FG, FF, FE, FD, hl, h1, h2, h3, h4, h5, h6, h7, sc]; omega))); clear hA hB A B))
      | (refine RQ.nl ?_; refine hk _ _ ?_; clear hk k)
      | (refine RQ.st fun A B hA hB => ?_; simp [FI, FH, FG, FF, FE, FD, hl, h1, h2, h3, h4, h5, h6, h7, sc, onW_t, onW_f, onV_s]; first | (refine hA _ _ _ ?_ (by first | exact .inl rfl | exact .inr (by decide)) ?_; (focus (first | (simp [FI, FH, FG, FF, FE, FD, hl, h1, h2, h3, h4, h5, h6, h7, sc]; done) | (simp [FI, FH, FG, FF, FE, FD, hl, h1, h2, h3, h4, h5, h6, h7, sc]; omega))); clear hA hB A B) | (refine hB ?_; clear hA hB A B) | (refine onV_if ?_ ?_; (focus (first | omega | (refine ⟨?_, ?_⟩ <;> omega))); simp only [onV_s]; refine hA _ _ _ ?_ (by first | exact .inl rfl | exact .inr (by decide)) ?_; (focus (first | (simp [FI, FH, FG, FF, FE, FD, hl, h1, h2, h3, h4, h5, h6, h7, sc]; done) | (simp [FI, FH, FG, FF, FE, FD, hl, h1, h2, h3, h4, h5, h6, h7, sc]; omega))); clear hA hB A B))
      | refine WP.sr fun k hk => ?_ | refine WP.r fun k hk => ?_
      | refine WP.sd _ rfl fun k hk => ?_ | refine WP.d _ rfl fun k hk => ?_
      | (refine WP.cc fun A B hA hB => ?_; simp [FI, FH, FG, FF, FE, FD, hl, h1, h2, h3, h4, h5, h6, h7, sc, onB_t, onB_f]; first | (refine hA ?_; clear hA hB A B) | (refine hB ?_; clear hA hB A B) | (refine onB_if (fun h => hA ?_) (fun h => hB ?_) <;> clear hA hB A B))
      | refine WP.q ?_ | refine WP.b ?_)
    simp [toldS, h1, h2, h3, h4, h5, h6, h7, Sm.cs]
  cases h8 : likeB v [[], [61], []]
  case true =>
    obtain ⟨p, q, r, rfl⟩ := len3 h8
    have n1 : r.length ≤ 100000000 := hs r (by simp)
    have n2 : r.length < LIM := by simp only [LIM]; omega
    cases h9 : nameB r
    · skip
      repeat' (first
        | refine WP.t ?_ | refine WP.k ?_ | refine WP.e ?_ | refine Qn ?_ | refine Qr ?_ | refine Qe ?_ | refine Bn ?_ | refine Br ?_ | refine Be ?_ | refine Bx (by decide) ?_
        | (refine RS.nl ?_; refine hk _ _ ?_; clear hk k)
        | (refine RS.st fun A B hA hB => ?_; simp [FI, FH, FG, FF, FE, FD, hl, h1, h2, h3, h4, h5, h6, h7, h8, h9, sc, n1, n2, onW_t, onW_f, onV_s]; first | (refine hA _ _ _ ?_ ?_; (focus (first | (simp [FI, FH, FG, FF, FE, FD, hl, h1, h2, h3, h4, h5, h6, h7, h8, h9, sc, n1, n2]; done) | (simp [FI, FH, FG, FF, FE, FD, hl, h1, h2, h3, h4, h5, h6, h7, h8, h9, sc, n1, n2]; omega))); clear hA hB A B) | (refine hB ?_; clear hA hB A B) | (refine onV_if ?_ ?_; (focus (first | omega | (refine ⟨?_, ?_⟩ <;> omega))); simp only [onV_s]; refine hA _ _ _ ?_ ?_; (focus (first | (simp [FI, FH, FG, FF, FE, FD, hl, h1, h2, h3, h4, h5, h6, h7, h8, h9, sc, n1, n2]; done) | (simp [FI, FH, FG, FF, FE, FD, hl, h1, h2, h3, h4, h5, h6, h7, h8, h9, sc, n1, n2]; omega))); clear hA hB A B))
        | (refine RQ.nl ?_; refine hk _ _ ?_; clear hk k)
        | (refine RQ.st fun A B hA hB => ?_; simp [FI, FH, FG, FF, FE, FD, hl, h1, h2, h3, h4, h5, h6, h7, h8, h9, sc, n1, n2, onW_t, onW_f, onV_s]; first | (refine hA _ _ _ ?_ (by first | exact .inl rfl | exact .inr (by decide)) ?_; (focus (first | (simp [FI, FH, FG, FF, FE, FD, hl, h1, h2, h3, h4, h5, h6, h7, h8, h9, sc, n1, n2]; done) | (simp [FI, FH, FG, FF, FE, FD, hl, h1, h2, h3, h4, h5, h6, h7, h8, h9, sc, n1, n2]; omega))); clear hA hB A B) | (refine hB ?_; clear hA hB A B) | (refine onV_if ?_ ?_; (focus (first | omega | (refine ⟨?_, ?_⟩ <;> omega))); simp only [onV_s]; refine hA _ _ _ ?_ (by first | exact .inl rfl | exact .inr (by decide)) ?_; (focus (first | (simp [FI, FH, FG, FF, FE, FD, hl, h1, h2, h3, h4, h5, h6, h7, h8, h9, sc, n1, n2]; done) | (simp [FI, FH, FG, FF, FE, FD, hl, h1, h2, h3, h4, h5, h6, h7, h8, h9, sc, n1, n2]; omega))); clear hA hB A B))
        | refine WP.sr fun k hk => ?_ | refine WP.r fun k hk => ?_
        | refine WP.sd _ rfl fun k hk => ?_ | refine WP.d _ rfl fun k hk => ?_
        | (refine WP.cc fun A B hA hB => ?_; simp [FI, FH, FG, FF, FE, FD, hl, h1, h2, h3, h4, h5, h6, h7, h8, h9, sc, n1, n2, onB_t, onB_f]; first | (refine hA ?_; clear hA hB A B) | (refine hB ?_; clear hA hB A B) | (refine onB_if (fun h => hA ?_) (fun h => hB ?_) <;> clear hA hB A B))
        | refine WP.q ?_ | refine WP.b ?_)
      simp [toldS, h1, h2, h3, h4, h5, h6, h7, h8, h9, Sm.cs]
    · skip
      repeat' (first
        | refine WP.t ?_ | refine WP.k ?_ | refine WP.e ?_ | refine Qn ?_ | refine Qr ?_ | refine Qe ?_ | refine Bn ?_ | refine Br ?_ | refine Be ?_ | refine Bx (by decide) ?_
        | (refine RS.nl ?_; refine hk _ _ ?_; clear hk k)
        | (refine RS.st fun A B hA hB => ?_; simp [FI, FH, FG, FF, FE, FD, hl, h1, h2, h3, h4, h5, h6, h7, h8, h9, sc, n1, n2, onW_t, onW_f, onV_s]; first | (refine hA _ _ _ ?_ ?_; (focus (first | (simp [FI, FH, FG, FF, FE, FD, hl, h1, h2, h3, h4, h5, h6, h7, h8, h9, sc, n1, n2]; done) | (simp [FI, FH, FG, FF, FE, FD, hl, h1, h2, h3, h4, h5, h6, h7, h8, h9, sc, n1, n2]; omega))); clear hA hB A B) | (refine hB ?_; clear hA hB A B) | (refine onV_if ?_ ?_; (focus (first | omega | (refine ⟨?_, ?_⟩ <;> omega))); simp only [onV_s]; refine hA _ _ _ ?_ ?_; (focus (first | (simp [FI, FH, FG, FF, FE, FD, hl, h1, h2, h3, h4, h5, h6, h7, h8, h9, sc, n1, n2]; done) | (simp [FI, FH, FG, FF, FE, FD, hl, h1, h2, h3, h4, h5, h6, h7, h8, h9, sc, n1, n2]; omega))); clear hA hB A B))
        | (refine RQ.nl ?_; refine hk _ _ ?_; clear hk k)
        | (refine RQ.st fun A B hA hB => ?_; simp [FI, FH, FG, FF, FE, FD, hl, h1, h2, h3, h4, h5, h6, h7, h8, h9, sc, n1, n2, onW_t, onW_f, onV_s]; first | (refine hA _ _ _ ?_ (by first | exact .inl rfl | exact .inr (by decide)) ?_; (focus (first | (simp [FI, FH, FG, FF, FE, FD, hl, h1, h2, h3, h4, h5, h6, h7, h8, h9, sc, n1, n2]; done) | (simp [FI, FH, FG, FF, FE, FD, hl, h1, h2, h3, h4, h5, h6, h7, h8, h9, sc, n1, n2]; omega))); clear hA hB A B) | (refine hB ?_; clear hA hB A B) | (refine onV_if ?_ ?_; (focus (first | omega | (refine ⟨?_, ?_⟩ <;> omega))); simp only [onV_s]; refine hA _ _ _ ?_ (by first | exact .inl rfl | exact .inr (by decide)) ?_; (focus (first | (simp [FI, FH, FG, FF, FE, FD, hl, h1, h2, h3, h4, h5, h6, h7, h8, h9, sc, n1, n2]; done) | (simp [FI, FH, FG, FF, FE, FD, hl, h1, h2, h3, h4, h5, h6, h7, h8, h9, sc, n1, n2]; omega))); clear hA hB A B))
        | refine WP.sr fun k hk => ?_ | refine WP.r fun k hk => ?_
        | refine WP.sd _ rfl fun k hk => ?_ | refine WP.d _ rfl fun k hk => ?_
        | (refine WP.cc fun A B hA hB => ?_; simp [FI, FH, FG, FF, FE, FD, hl, h1, h2, h3, h4, h5, h6, h7, h8, h9, sc, n1, n2, onB_t, onB_f]; first | (refine hA ?_; clear hA hB A B) | (refine hB ?_; clear hA hB A B) | (refine onB_if (fun h => hA ?_) (fun h => hB ?_) <;> clear hA hB A B))
        | refine WP.q ?_ | refine WP.b ?_)
      simp [toldS, h1, h2, h3, h4, h5, h6, h7, h8, h9, Sm.cs]
  repeat' (first
    | refine WP.t ?_ | refine WP.k ?_ | refine WP.e ?_ | refine Qn ?_ | refine Qr ?_ | refine Qe ?_ | refine Bn ?_ | refine Br ?_ | refine Be ?_ | refine Bx (by decide) ?_
    | (refine RS.nl ?_; refine hk _ _ ?_; clear hk k)
    | (refine RS.st fun A B hA hB => ?_; simp [FI, FH, FG, FF, FE, FD, hl, h1, h2, h3, h4, h5, h6, h7, h8, sc, onW_t, onW_f, onV_s]; first | (refine hA _ _ _ ?_ ?_; (focus (first | (simp [FI, FH, FG, FF, FE, FD, hl, h1, h2, h3, h4, h5, h6, h7, h8, sc]; done) | (simp [FI, FH, FG, FF, FE, FD, hl, h1, h2, h3, h4, h5, h6, h7, h8, sc]; omega))); clear hA hB A B) | (refine hB ?_; clear hA hB A B) | (refine onV_if ?_ ?_; (focus (first | omega | (refine ⟨?_, ?_⟩ <;> omega))); simp only [onV_s]; refine hA _ _ _ ?_ ?_; (focus (first | (simp [FI, FH, FG, FF, FE, FD, hl, h1, h2, h3, h4, h5, h6, h7, h8, sc]; done) | (simp [FI, FH, FG, FF, FE, FD, hl, h1, h2, h3, h4, h5, h6, h7, h8, sc]; omega))); clear hA hB A B))
    | (refine RQ.nl ?_; refine hk _ _ ?_; clear hk k)
    | (refine RQ.st fun A B hA hB => ?_; simp [FI, FH, FG, FF, FE, FD, hl, h1, h2, h3, h4, h5, h6, h7, h8, sc, onW_t, onW_f, onV_s]; first | (refine hA _ _ _ ?_ (by first | exact .inl rfl | exact .inr (by decide)) ?_; (focus (first | (simp [FI, FH, FG, FF, FE, FD, hl, h1, h2, h3, h4, h5, h6, h7, h8, sc]; done) | (simp [FI, FH, FG, FF, FE, FD, hl, h1, h2, h3, h4, h5, h6, h7, h8, sc]; omega))); clear hA hB A B) | (refine hB ?_; clear hA hB A B) | (refine onV_if ?_ ?_; (focus (first | omega | (refine ⟨?_, ?_⟩ <;> omega))); simp only [onV_s]; refine hA _ _ _ ?_ (by first | exact .inl rfl | exact .inr (by decide)) ?_; (focus (first | (simp [FI, FH, FG, FF, FE, FD, hl, h1, h2, h3, h4, h5, h6, h7, h8, sc]; done) | (simp [FI, FH, FG, FF, FE, FD, hl, h1, h2, h3, h4, h5, h6, h7, h8, sc]; omega))); clear hA hB A B))
    | refine WP.sr fun k hk => ?_ | refine WP.r fun k hk => ?_
    | refine WP.sd _ rfl fun k hk => ?_ | refine WP.d _ rfl fun k hk => ?_
    | (refine WP.cc fun A B hA hB => ?_; simp [FI, FH, FG, FF, FE, FD, hl, h1, h2, h3, h4, h5, h6, h7, h8, sc, onB_t, onB_f]; first | (refine hA ?_; clear hA hB A B) | (refine hB ?_; clear hA hB A B) | (refine onB_if (fun h => hA ?_) (fun h => hB ?_) <;> clear hA hB A B))
    | refine WP.q ?_ | refine WP.b ?_)
  simp [toldS, h1, h2, h3, h4, h5, h6, h7, h8, Sm.cs]
end
end Go.Am
namespace Go.Am
open Go.Proofs Go.Shelf
section
variable {K : Nat} {gw : World} {s : St}
attribute [local simp] awanted xop zOf zrow aop ev T0 Slots.put Slots.set Slots.get awr WOk AV.may ofConst abinop aint isConst St.get_push St.get_put St.live AV.fit AV.cells AV.one fieldOf afieldAddr aload ofCells astore splice May eqres env_ti FinP FinZ FinW ares aresL ares1 Fns.addP Fns.add Fns.a0 Fns.a1 Fns.a2 Fns.a3 Fns.a4 abuiltin alenOk alen aindex elemOfT elemId abuildSlice afill chunks ard aappend isSS AV.isStr aminmax placesOf abuild afield aidx isStrD isStrDesc astrop aslice asliceOk abound arange anext aextract aunop aeq AV.ck avseq aveq aconv aconvert onB_t onB_f List.range_succ ti0 ti1 ti2 ti3 ti4 ti5 ti6 ti7 ti8 ti9 ti10 ti11 ti12 ti13 ti14 ti15 ti16 ti17 ti18 ti19 ti20 ti21 ti22 ti23 ti24 ti25 ti26 ti27 ti28 ti29 ti30 ti31 ti32 ti33 ti34 ti35 ti36 ti37 ti38 ti39 ti40 ti41 ti42 ti43 ti44 ti45 ti46 ti47 ti48 ti49 ti50 ti51 ti52 ti53 ti54 ti55 ti56 ti57 ti58 ti59 ti60 ti61 ti62 ti63 ti64 ti65 ti66 ti67 ti68 ti69 ti70 ti71 ti72 ti73 ti74 ti75 ti76 ti77 ti78 ti79 ti80 ti81 ti82 ti83 ti84 ti85 ti86 ti87 ti88 ti89 ti90 ti91 ti92 ti93 ti94 ti95 ti96 ti97 ti98 ti99 ti100 ti101
def outS (m : Sm) (i n : Nat) : Bool := if m.k = 7 ∨ m.k = 8 then decide ((n : Int) ≤ if m.a < m.b then m.b else m.a) else if m.k = 9 then false else decide ((i : Int) = (n : Int) - 1)
def chk (n : Nat) : Nat → List Sm → Int × Int
  | _, [] => (0, 0)
  | i, m :: l => if mayB m then (if outS m i n then ((i : Int), 12) else chk n (i + 1) l) else ((i : Int), 1)
theorem ft_Check (hG : GW K gw) (l : List Sm) (hl : l.length < LIM) (hok : ∀ m ∈ l, okS m = true) : FT (env K gw) NoW 14 [.sl (l.map Sm.cs)] s (.tup [.int .i64 (chk l.length 0 l).1, .int .i64 (chk l.length 0 l).2]) s := by
  refine FT.pure (fn := Tryd.f14) (FG_ok hG) mixed Tryd.func14 (by kernel_rfl) (by rfl) rfl rfl (by simp) rfl fun μ w => ?_
  repeat' (first
    | refine WP.t ?_ | refine WP.k ?_ | refine WP.e ?_ | refine Qn ?_ | refine Qr ?_ | refine Qe ?_ | refine Bn ?_ | refine Br ?_ | refine Be ?_ | refine Bx (by decide) ?_
    | (refine RS.nl ?_; refine hk _ _ ?_; clear hk k)
    | (refine RS.st fun A B hA hB => ?_; simp [onW_t, onW_t, onW_f, onV_s]; first | (refine hA _ _ _ ?_ ?_; (focus (first | (simp [onW_t]; done) | (simp [onW_t]; omega))); clear hA hB A B) | (refine hB ?_; clear hA hB A B) | (refine onV_if ?_ ?_; (focus (first | omega | (refine ⟨?_, ?_⟩ <;> omega))); simp only [onV_s]; refine hA _ _ _ ?_ ?_; (focus (first | (simp [onW_t]; done) | (simp [onW_t]; omega))); clear hA hB A B))
    | (refine RQ.nl ?_; refine hk _ _ ?_; clear hk k)
    | (refine RQ.st fun A B hA hB => ?_; simp [onW_t, onW_t, onW_f, onV_s]; first | (refine hA _ _ _ ?_ (by first | exact .inl rfl | exact .inr (by decide)) ?_; (focus (first | (simp [onW_t]; done) | (simp [onW_t]; omega))); clear hA hB A B) | (refine hB ?_; clear hA hB A B) | (refine onV_if ?_ ?_; (focus (first | omega | (refine ⟨?_, ?_⟩ <;> omega))); simp only [onV_s]; refine hA _ _ _ ?_ (by first | exact .inl rfl | exact .inr (by decide)) ?_; (focus (first | (simp [onW_t]; done) | (simp [onW_t]; omega))); clear hA hB A B))
    | refine WP.sr fun k hk => ?_ | refine WP.r fun k hk => ?_
    | refine WP.sd _ rfl fun k hk => ?_ | refine WP.d _ rfl fun k hk => ?_
    | (refine WP.cc fun A B hA hB => ?_; simp [onW_t, onB_t, onB_f]; first | (refine hA ?_; clear hA hB A B) | (refine hB ?_; clear hA hB A B) | (refine onB_if (fun h => hA ?_) (fun h => hB ?_) <;> clear hA hB A B))
    | refine WP.q ?_ | refine WP.b ?_)
  refine WP_loopS (fun i : Nat => [(0, .sl (l.map Sm.cs)), (7, .sl (l.map Sm.cs)), (8, .int .i64 l.length), (9, .int .i64 i)]) (fun i s' => i ≤ l.length ∧ s.nx ≤ s'.nx ∧ chk l.length 0 l = chk l.length i (l.drop i)) (fun i => l.length - i) 0 (by simp) ⟨by omega, by omega, rfl⟩ ?_
  rintro i s' ⟨hi, hnx, ht⟩
  by_cases hi2 : i < l.length
  · have hx : l[i]? = some l[i] := List.getElem?_eq_getElem hi2
    have hm := hok l[i] (List.getElem_mem hi2)
    have hw := wrap_succ hi2 hl
    have hw2 : IntKind.i64.wrap ((l.length : Int) - 1) = (l.length : Int) - 1 := wrap64 (by omega) (by simp only [LIM] at hl; omega)
    rw [List.drop_eq_getElem_cons hi2] at ht
    simp only [chk] at ht
    generalize hv : l[i] = m at *
    obtain ⟨k, x, y, z, o, n, a, b⟩ := m
    by_cases h7 : k = 7
    · subst h7
      cases hmay : mayB ⟨7, x, y, z, o, n, a, b⟩ <;> cases ho : decide ((l.length : Int) ≤ if a < b then b else a)
      all_goals
        simp [hmay, ho, outS] at ht
        repeat' (first
          | refine WP.t ?_ | refine WP.k ?_ | refine WP.e ?_ | refine Qn ?_ | refine Qr ?_ | refine Qe ?_ | refine Bn ?_ | refine Br ?_ | refine Be ?_ | refine Bx (by decide) ?_
          | (refine RS.nl ?_; refine hk _ _ ?_; clear hk k)
          | (refine RS.st fun A B hA hB => ?_; simp [FG, hi2, hx, hv, hm, hw, hw2, Sm.cs, hmay, ho, onW_t, onW_f, onV_s]; first | (refine hA _ _ _ ?_ ?_; (focus (first | (simp [FG, hi2, hx, hv, hm, hw, hw2, Sm.cs, hmay, ho]; done) | (simp [FG, hi2, hx, hv, hm, hw, hw2, Sm.cs, hmay, ho]; omega))); clear hA hB A B) | (refine hB ?_; clear hA hB A B) | (refine onV_if ?_ ?_; (focus (first | omega | (refine ⟨?_, ?_⟩ <;> omega))); simp only [onV_s]; refine hA _ _ _ ?_ ?_; (focus (first | (simp [FG, hi2, hx, hv, hm, hw, hw2, Sm.cs, hmay, ho]; done) | (simp [FG, hi2, hx, hv, hm, hw, hw2, Sm.cs, hmay, ho]; omega))); clear hA hB A B))
          | (refine RQ.nl ?_; refine hk _ _ ?_; clear hk k)
          | (refine RQ.st fun A B hA hB => ?_; simp [FG, hi2, hx, hv, hm, hw, hw2, Sm.cs, hmay, ho, onW_t, onW_f, onV_s]; first | (refine hA _ _ _ ?_ (by first | exact .inl rfl | exact .inr (by decide)) ?_; (focus (first | (simp [FG, hi2, hx, hv, hm, hw, hw2, Sm.cs, hmay, ho]; done) | (simp [FG, hi2, hx, hv, hm, hw, hw2, Sm.cs, hmay, ho]; omega))); clear hA hB A B) | (refine hB ?_; clear hA hB A B) | (refine onV_if ?_ ?_; (focus (first | omega | (refine ⟨?_, ?_⟩ <;> omega))); simp only [onV_s]; refine hA _ _ _ ?_ (by first | exact .inl rfl | exact .inr (by decide)) ?_; (focus (first | (simp [FG, hi2, hx, hv, hm, hw, hw2, Sm.cs, hmay, ho]; done) | (simp [FG, hi2, hx, hv, hm, hw, hw2, Sm.cs, hmay, ho]; omega))); clear hA hB A B))
          | refine WP.sr fun k hk => ?_ | refine WP.r fun k hk => ?_
          | refine WP.sd _ rfl fun k hk => ?_ | refine WP.d _ rfl fun k hk => ?_
          | (refine WP.cc fun A B hA hB => ?_; simp [FG, hi2, hx, hv, hm, hw, hw2, Sm.cs, hmay, ho, onB_t, onB_f]; first | (refine hA ?_; clear hA hB A B) | (refine hB ?_; clear hA hB A B) | (refine onB_if (fun h => hA ?_) (fun h => hB ?_) <;> clear hA hB A B))
          | refine WP.q ?_ | refine WP.b ?_)
        first
          | (simp [ht]; done)
          | exact ⟨i + 1, by omega, by simp, by omega, by simp; omega, ht⟩
    by_cases h8 : k = 8
    · subst h8
      cases hmay : mayB ⟨8, x, y, z, o, n, a, b⟩ <;> cases ho : decide ((l.length : Int) ≤ if a < b then b else a)
      all_goals
        simp [hmay, ho, outS] at ht
        repeat' (first
          | refine WP.t ?_ | refine WP.k ?_ | refine WP.e ?_ | refine Qn ?_ | refine Qr ?_ | refine Qe ?_ | refine Bn ?_ | refine Br ?_ | refine Be ?_ | refine Bx (by decide) ?_
          | (refine RS.nl ?_; refine hk _ _ ?_; clear hk k)
          | (refine RS.st fun A B hA hB => ?_; simp [FG, hi2, hx, hv, hm, hw, hw2, Sm.cs, hmay, ho, onW_t, onW_f, onV_s]; first | (refine hA _ _ _ ?_ ?_; (focus (first | (simp [FG, hi2, hx, hv, hm, hw, hw2, Sm.cs, hmay, ho]; done) | (simp [FG, hi2, hx, hv, hm, hw, hw2, Sm.cs, hmay, ho]; omega))); clear hA hB A B) | (refine hB ?_; clear hA hB A B) | (refine onV_if ?_ ?_; (focus (first | omega | (refine ⟨?_, ?_⟩ <;> omega))); simp only [onV_s]; refine hA _ _ _ ?_ ?_; (focus (first | (simp [FG, hi2, hx, hv, hm, hw, hw2, Sm.cs, hmay, ho]; done) | (simp [FG, hi2, hx, hv, hm, hw, hw2, Sm.cs, hmay, ho]; omega))); clear hA hB A B))
          | (refine RQ.nl ?_; refine hk _ _ ?_; clear hk k)
          | (refine RQ.st fun A B hA hB => ?_; simp [FG, hi2, hx, hv, hm, hw, hw2, Sm.cs, hmay, ho, onW_t, onW_f, onV_s]; first | (refine hA _ _ _ ?_ (by first | exact .inl rfl | exact .inr (by decide)) ?_; (focus (first | (simp [FG, hi2, hx, hv, hm, hw, hw2, Sm.cs, hmay, ho]; done) | (simp [FG, hi2, hx, hv, hm, hw, hw2, Sm.cs, hmay, ho]; omega))); clear hA hB A B) | (refine hB ?_; clear hA hB A B) | (refine onV_if ?_ ?_; (focus (first | omega | (refine ⟨?_, ?_⟩ <;> omega))); simp only [onV_s]; refine hA _ _ _ ?_ (by first | exact .inl rfl | exact .inr (by decide)) ?_; (focus (first | (simp [FG, hi2, hx, hv, hm, hw, hw2, Sm.cs, hmay, ho]; done) | (simp [FG, hi2, hx, hv, hm, hw, hw2, Sm.cs, hmay, ho]; omega))); clear hA hB A B))
          | refine WP.sr fun k hk => ?_ | refine WP.r fun k hk => ?_
          | refine WP.sd _ rfl fun k hk => ?_ | refine WP.d _ rfl fun k hk => ?_
          | (refine WP.cc fun A B hA hB => ?_; simp [FG, hi2, hx, hv, hm, hw, hw2, Sm.cs, hmay, ho, onB_t, onB_f]; first | (refine hA ?_; clear hA hB A B) | (refine hB ?_; clear hA hB A B) | (refine onB_if (fun h => hA ?_) (fun h => hB ?_) <;> clear hA hB A B))
          | refine WP.q ?_ | refine WP.b ?_)
        first
          | (simp [ht]; done)
          | exact ⟨i + 1, by omega, by simp, by omega, by simp; omega, ht⟩
    by_cases h9 : k = 9
    · subst h9
      cases hmay : mayB ⟨9, x, y, z, o, n, a, b⟩
      all_goals
        simp [hmay, outS] at ht
        repeat' (first
          | refine WP.t ?_ | refine WP.k ?_ | refine WP.e ?_ | refine Qn ?_ | refine Qr ?_ | refine Qe ?_ | refine Bn ?_ | refine Br ?_ | refine Be ?_ | refine Bx (by decide) ?_
          | (refine RS.nl ?_; refine hk _ _ ?_; clear hk k)
          | (refine RS.st fun A B hA hB => ?_; simp [FG, hi2, hx, hv, hm, hw, hw2, Sm.cs, hmay, onW_t, onW_f, onV_s]; first | (refine hA _ _ _ ?_ ?_; (focus (first | (simp [FG, hi2, hx, hv, hm, hw, hw2, Sm.cs, hmay]; done) | (simp [FG, hi2, hx, hv, hm, hw, hw2, Sm.cs, hmay]; omega))); clear hA hB A B) | (refine hB ?_; clear hA hB A B) | (refine onV_if ?_ ?_; (focus (first | omega | (refine ⟨?_, ?_⟩ <;> omega))); simp only [onV_s]; refine hA _ _ _ ?_ ?_; (focus (first | (simp [FG, hi2, hx, hv, hm, hw, hw2, Sm.cs, hmay]; done) | (simp [FG, hi2, hx, hv, hm, hw, hw2, Sm.cs, hmay]; omega))); clear hA hB A B))
          | (refine RQ.nl ?_; refine hk _ _ ?_; clear hk k)
          | (refine RQ.st fun A B hA hB => ?_; simp [FG, hi2, hx, hv, hm, hw, hw2, Sm.cs, hmay, onW_t, onW_f, onV_s]; first | (refine hA _ _ _ ?_ (by first | exact .inl rfl | exact .inr (by decide)) ?_; (focus (first | (simp [FG, hi2, hx, hv, hm, hw, hw2, Sm.cs, hmay]; done) | (simp [FG, hi2, hx, hv, hm, hw, hw2, Sm.cs, hmay]; omega))); clear hA hB A B) | (refine hB ?_; clear hA hB A B) | (refine onV_if ?_ ?_; (focus (first | omega | (refine ⟨?_, ?_⟩ <;> omega))); simp only [onV_s]; refine hA _ _ _ ?_ (by first | exact .inl rfl | exact .inr (by decide)) ?_; (focus (first | (simp [FG, hi2, hx, hv, hm, hw, hw2, Sm.cs, hmay]; done) | (simp [FG, hi2, hx, hv, hm, hw, hw2, Sm.cs, hmay]; omega))); clear hA hB A B))
          | refine WP.sr fun k hk => ?_ | refine WP.r fun k hk => ?_
          | refine WP.sd _ rfl fun k hk => ?_ | refine WP.d _ rfl fun k hk => ?_
          | (refine WP.cc fun A B hA hB => ?_; simp [FG, hi2, hx, hv, hm, hw, hw2, Sm.cs, hmay, onB_t, onB_f]; first | (refine hA ?_; clear hA hB A B) | (refine hB ?_; clear hA hB A B) | (refine onB_if (fun h => hA ?_) (fun h => hB ?_) <;> clear hA hB A B))
          | refine WP.q ?_ | refine WP.b ?_)
        first
          | (simp [ht]; done)
          | exact ⟨i + 1, by omega, by simp, by omega, by simp; omega, ht⟩
    have q7 : (k == 7) = false := by simpa using h7
    have q8 : (k == 8) = false := by simpa using h8
    have q9 : (k == 9) = false := by simpa using h9
    by_cases hlast : (i : Int) = (l.length : Int) - 1
    · have q : ((i : Int) == (l.length : Int) - 1) = true := by simpa using hlast
      cases hmay : mayB ⟨k, x, y, z, o, n, a, b⟩
      all_goals
        simp [hmay, outS, h7, h8, h9, hlast] at ht
        repeat' (first
          | refine WP.t ?_ | refine WP.k ?_ | refine WP.e ?_ | refine Qn ?_ | refine Qr ?_ | refine Qe ?_ | refine Bn ?_ | refine Br ?_ | refine Be ?_ | refine Bx (by decide) ?_
          | (refine RS.nl ?_; refine hk _ _ ?_; clear hk k)
          | (refine RS.st fun A B hA hB => ?_; simp [FG, hi2, hx, hv, hm, hw, hw2, Sm.cs, hmay, q7, q8, q9, q, onW_t, onW_f, onV_s]; first | (refine hA _ _ _ ?_ ?_; (focus (first | (simp [FG, hi2, hx, hv, hm, hw, hw2, Sm.cs, hmay, q7, q8, q9, q]; done) | (simp [FG, hi2, hx, hv, hm, hw, hw2, Sm.cs, hmay, q7, q8, q9, q]; omega))); clear hA hB A B) | (refine hB ?_; clear hA hB A B) | (refine onV_if ?_ ?_; (focus (first | omega | (refine ⟨?_, ?_⟩ <;> omega))); simp only [onV_s]; refine hA _ _ _ ?_ ?_; (focus (first | (simp [FG, hi2, hx, hv, hm, hw, hw2, Sm.cs, hmay, q7, q8, q9, q]; done) | (simp [FG, hi2, hx, hv, hm, hw, hw2, Sm.cs, hmay, q7, q8, q9, q]; omega))); clear hA hB A B))
          | (refine RQ.nl ?_; refine hk _ _ ?_; clear hk k)
          | (refine RQ.st fun A B hA hB => ?_; simp [FG, hi2, hx, hv, hm, hw, hw2, Sm.cs, hmay, q7, q8, q9, q, onW_t, onW_f, onV_s]; first | (refine hA _ _ _ ?_ (by first | exact .inl rfl | exact .inr (by decide)) ?_; (focus (first | (simp [FG, hi2, hx, hv, hm, hw, hw2, Sm.cs, hmay, q7, q8, q9, q]; done) | (simp [FG, hi2, hx, hv, hm, hw, hw2, Sm.cs, hmay, q7, q8, q9, q]; omega))); clear hA hB A B) | (refine hB ?_; clear hA hB A B) | (refine onV_if ?_ ?_; (focus (first | omega | (refine ⟨?_, ?_⟩ <;> omega))); simp only [onV_s]; refine hA _ _ _ ?_ (by first | exact .inl rfl | exact .inr (by decide)) ?_; (focus (first | (simp [FG, hi2, hx, hv, hm, hw, hw2, Sm.cs, hmay, q7, q8, q9, q]; done) | (simp [FG, hi2, hx, hv, hm, hw, hw2, Sm.cs, hmay, q7, q8, q9, q]; omega))); clear hA hB A B))
          | refine WP.sr fun k hk => ?_ | refine WP.r fun k hk => ?_
          | refine WP.sd _ rfl fun k hk => ?_ | refine WP.d _ rfl fun k hk => ?_
          | (refine WP.cc fun A B hA hB => ?_; simp [FG, hi2, hx, hv, hm, hw, hw2, Sm.cs, hmay, q7, q8, q9, q, onB_t, onB_f]; first | (refine hA ?_; clear hA hB A B) | (refine hB ?_; clear hA hB A B) | (refine onB_if (fun h => hA ?_) (fun h => hB ?_) <;> clear hA hB A B))
          | refine WP.q ?_ | refine WP.b ?_)
        simp [ht, hlast]
    · have q : ((i : Int) == (l.length : Int) - 1) = false := by simpa using hlast
      cases hmay : mayB ⟨k, x, y, z, o, n, a, b⟩
      all_goals
        simp [hmay, outS, h7, h8, h9, hlast] at ht
        repeat' (first
          | refine WP.t ?_ | refine WP.k ?_ | refine WP.e ?_ | refine Qn ?_ | refine Qr ?_ | refine Qe ?_ | refine Bn ?_ | refine Br ?_ | refine Be ?_ | refine Bx (by decide) ?_
          | (refine RS.nl ?_; refine hk _ _ ?_; clear hk k)
          | (refine RS.st fun A B hA hB => ?_; simp [FG, hi2, hx, hv, hm, hw, hw2, Sm.cs, hmay, q7, q8, q9, q, onW_t, onW_f, onV_s]; first | (refine hA _ _ _ ?_ ?_; (focus (first | (simp [FG, hi2, hx, hv, hm, hw, hw2, Sm.cs, hmay, q7, q8, q9, q]; done) | (simp [FG, hi2, hx, hv, hm, hw, hw2, Sm.cs, hmay, q7, q8, q9, q]; omega))); clear hA hB A B) | (refine hB ?_; clear hA hB A B) | (refine onV_if ?_ ?_; (focus (first | omega | (refine ⟨?_, ?_⟩ <;> omega))); simp only [onV_s]; refine hA _ _ _ ?_ ?_; (focus (first | (simp [FG, hi2, hx, hv, hm, hw, hw2, Sm.cs, hmay, q7, q8, q9, q]; done) | (simp [FG, hi2, hx, hv, hm, hw, hw2, Sm.cs, hmay, q7, q8, q9, q]; omega))); clear hA hB A B))
          | (refine RQ.nl ?_; refine hk _ _ ?_; clear hk k)
          | (refine RQ.st fun A B hA hB => ?_; simp [FG, hi2, hx, hv, hm, hw, hw2, Sm.cs, hmay, q7, q8, q9, q, onW_t, onW_f, onV_s]; first | (refine hA _ _ _ ?_ (by first | exact .inl rfl | exact .inr (by decide)) ?_; (focus (first | (simp [FG, hi2, hx, hv, hm, hw, hw2, Sm.cs, hmay, q7, q8, q9, q]; done) | (simp [FG, hi2, hx, hv, hm, hw, hw2, Sm.cs, hmay, q7, q8, q9, q]; omega))); clear hA hB A B) | (refine hB ?_; clear hA hB A B) | (refine onV_if ?_ ?_; (focus (first | omega | (refine ⟨?_, ?_⟩ <;> omega))); simp only [onV_s]; refine hA _ _ _ ?_ (by first | exact .inl rfl | exact .inr (by decide)) ?_; (focus (first | (simp [FG, hi2, hx, hv, hm, hw, hw2, Sm.cs, hmay, q7, q8, q9, q]; done) | (simp [FG, hi2, hx, hv, hm, hw, hw2, Sm.cs, hmay, q7, q8, q9, q]; omega))); clear hA hB A B))
          | refine WP.sr fun k hk => ?_ | refine WP.r fun k hk => ?_
          | refine WP.sd _ rfl fun k hk => ?_ | refine WP.d _ rfl fun k hk => ?_
          | (refine WP.cc fun A B hA hB => ?_; simp [FG, hi2, hx, hv, hm, hw, hw2, Sm.cs, hmay, q7, q8, q9, q, onB_t, onB_f]; first | (refine hA ?_; clear hA hB A B) | (refine hB ?_; clear hA hB A B) | (refine onB_if (fun h => hA ?_) (fun h => hB ?_) <;> clear hA hB A B))
          | refine WP.q ?_ | refine WP.b ?_)
        first
          | (simp [ht]; done)
          | exact ⟨i + 1, by omega, by simp, by omega, by simp; omega, ht⟩
  · skip
    repeat' (first
      | refine WP.t ?_ | refine WP.k ?_ | refine WP.e ?_ | refine Qn ?_ | refine Qr ?_ | refine Qe ?_ | refine Bn ?_ | refine Br ?_ | refine Be ?_ | refine Bx (by decide) ?_
      | (refine RS.nl ?_; refine hk _ _ ?_; clear hk k)
      | (refine RS.st fun A B hA hB => ?_; simp [hi2, onW_t, onW_f, onV_s]; first | (refine hA _ _ _ ?_ ?_; (focus (first | (simp [hi2]; done) | (simp [hi2]; omega))); clear hA hB A B) | (refine hB ?_; clear hA hB A B) | (refine onV_if ?_ ?_; (focus (first | omega | (refine ⟨?_, ?_⟩ <;> omega))); simp only [onV_s]; refine hA _ _ _ ?_ ?_; (focus (first | (simp [hi2]; done) | (simp [hi2]; omega))); clear hA hB A B))
      | (refine RQ.nl ?_; refine hk _ _ ?_; clear hk k)
      | (refine RQ.st fun A B hA hB => ?_; simp [hi2, onW_t, onW_f, onV_s]; first | (refine hA _ _ _ ?_ (by first | exact .inl rfl | exact .inr (by decide)) ?_; (focus (first | (simp [hi2]; done) | (simp [hi2]; omega))); clear hA hB A B) | (refine hB ?_; clear hA hB A B) | (refine onV_if ?_ ?_; (focus (first | omega | (refine ⟨?_, ?_⟩ <;> omega))); simp only [onV_s]; refine hA _ _ _ ?_ (by first | exact .inl rfl | exact .inr (by decide)) ?_; (focus (first | (simp [hi2]; done) | (simp [hi2]; omega))); clear hA hB A B))
      | refine WP.sr fun k hk => ?_ | refine WP.r fun k hk => ?_
      | refine WP.sd _ rfl fun k hk => ?_ | refine WP.d _ rfl fun k hk => ?_
      | (refine WP.cc fun A B hA hB => ?_; simp [hi2, onB_t, onB_f]; first | (refine hA ?_; clear hA hB A B) | (refine hB ?_; clear hA hB A B) | (refine onB_if (fun h => hA ?_) (fun h => hB ?_) <;> clear hA hB A B))
      | refine WP.q ?_ | refine WP.b ?_)
    rw [List.drop_of_length_le (by omega)] at ht
    simp [ht, chk]
end
end Go.Am
namespace Go.Am
open Go.Proofs Go.Shelf
theorem name_short {x : Str} (h : nameB x = true) : x.length ≤ 32 := by
  simp only [nameB, Bool.and_eq_true, decide_eq_true_eq] at h; exact h.2
theorem op_short {x : Str} (h : opB x = true) : x.length ≤ 32 := by
  by_cases h1 : x.length = 1
  · omega
  · rw [opB_len x h1] at h; cases h
structure Short (m : Sm) : Prop where
  x : m.x.length ≤ 32
  y : m.y.length ≤ 32
  z : m.z.length ≤ 32
  o : m.o.length ≤ 32
theorem may_short {m : Sm} (h : mayB m = true) : Short m := by
  obtain ⟨k, x, y, z, o, n, a, b⟩ := m
  simp only [mayB, Bool.and_eq_true, decide_eq_true_eq] at h
  obtain ⟨h1, h2⟩ := h
  by_cases c1 : k = 1
  · subst c1; simp [fitS, bareS] at h1 h2; have := name_short h1; obtain ⟨rfl, rfl, rfl, _⟩ := h2; exact ⟨this, by simp, by simp, by simp⟩
  by_cases c2 : k = 2
  · subst c2; simp [fitS, bareS] at h1 h2; exact ⟨name_short h1.1.1, name_short h1.1.2.1, name_short h1.1.2.2, op_short h1.2⟩
  by_cases c3 : k = 3
  · subst c3; simp [fitS, bareS] at h1 h2; obtain ⟨rfl, rfl, _⟩ := h2; exact ⟨name_short h1.1, name_short h1.2, by simp, by simp⟩
  by_cases c4 : k = 4
  · subst c4; simp [fitS, bareS] at h1 h2; have := name_short h1; obtain ⟨rfl, rfl, rfl, _⟩ := h2; exact ⟨this, by simp, by simp, by simp⟩
  by_cases c5 : k = 5
  · subst c5; simp [fitS, bareS] at h1 h2; obtain ⟨rfl, rfl, _⟩ := h2; exact ⟨name_short h1.1, name_short h1.2, by simp, by simp⟩
  by_cases c6 : k = 6
  · subst c6; simp [fitS, bareS] at h1 h2; have := name_short h1; obtain ⟨rfl, rfl, rfl, _⟩ := h2; exact ⟨by simp, this, by simp, by simp⟩
  by_cases c7 : k = 7
  · subst c7; simp [fitS, bareS] at h1 h2; have := name_short h1.1.1; obtain ⟨rfl, rfl, rfl, _⟩ := h2; exact ⟨by simp, this, by simp, by simp⟩
  by_cases c8 : k = 8
  · subst c8; simp [fitS, bareS] at h1 h2; obtain ⟨rfl, rfl, rfl, rfl, _⟩ := h2; exact ⟨by simp, by simp, by simp, by simp⟩
  simp [fitS, bareS, c1, c2, c3, c4, c5, c6, c7, c8] at h1 h2
  obtain ⟨rfl, rfl, rfl, rfl, _⟩ := h2
  exact ⟨by simp, by simp, by simp, by simp⟩
def okI (m : Sm) : Bool := i64ok m.n && i64ok m.a && i64ok m.b
theorem okW_of {m : Sm} (h : Short m) (hi : okI m = true) : okW m = true := by
  obtain ⟨h1, h2, h3, h4⟩ := h
  simp only [okI, Bool.and_eq_true] at hi
  simp only [okW, Bool.and_eq_true, decide_eq_true_eq]
  exact ⟨⟨⟨⟨⟨⟨by omega, by omega⟩, by omega⟩, by omega⟩, hi.1.1⟩, hi.1.2⟩, hi.2⟩
theorem line_le {m : Sm} (h : Short m) (hi : okI m = true) : (lineS m).length ≤ 200 := by
  obtain ⟨h1, h2, h3, h4⟩ := h
  simp only [okI, Bool.and_eq_true] at hi
  have k1 := itoa_le hi.1.1
  have k2 := itoa_le hi.1.2
  have k3 := itoa_le hi.2
  refine Nat.le_trans (join_le _ _) ?_
  unfold wordsL
  repeat' split
  all_goals simp
  all_goals omega
def textL (l : List Sm) : Str := l.flatMap fun m => lineS m ++ [10]
theorem textL_app (a b : List Sm) : textL (a ++ b) = textL a ++ textL b := by simp [textL]
theorem textL_le : ∀ {l : List Sm}, (∀ m ∈ l, mayB m = true) → (∀ m ∈ l, okI m = true) → (textL l).length ≤ 201 * l.length
  | [], _, _ => by simp [textL]
  | m :: l, h, hi => by
    have h1 := line_le (may_short (h m (by simp))) (hi m (by simp))
    have h2 := textL_le (l := l) (fun m hm => h m (by simp [hm])) (fun m hm => hi m (by simp [hm]))
    have e : textL (m :: l) = lineS m ++ [10] ++ textL l := by simp [textL]
    rw [e]
    simp only [List.length_append, List.length_cons, List.length_nil]
    omega
section
variable {K : Nat} {gw : World} {s : St}
attribute [local simp] awanted xop zOf zrow aop ev T0 Slots.put Slots.set Slots.get awr WOk AV.may ofConst abinop aint isConst St.get_push St.get_put St.live AV.fit AV.cells AV.one fieldOf afieldAddr aload ofCells astore splice May eqres env_ti FinP FinZ FinW ares aresL ares1 Fns.addP Fns.add Fns.a0 Fns.a1 Fns.a2 Fns.a3 Fns.a4 abuiltin alenOk alen aindex elemOfT elemId abuildSlice afill chunks ard aappend isSS AV.isStr aminmax placesOf abuild afield aidx isStrD isStrDesc astrop aslice asliceOk abound arange anext aextract aunop aeq AV.ck avseq aveq aconv aconvert onB_t onB_f List.range_succ ti0 ti1 ti2 ti3 ti4 ti5 ti6 ti7 ti8 ti9 ti10 ti11 ti12 ti13 ti14 ti15 ti16 ti17 ti18 ti19 ti20 ti21 ti22 ti23 ti24 ti25 ti26 ti27 ti28 ti29 ti30 ti31 ti32 ti33 ti34 ti35 ti36 ti37 ti38 ti39 ti40 ti41 ti42 ti43 ti44 ti45 ti46 ti47 ti48 ti49 ti50 ti51 ti52 ti53 ti54 ti55 ti56 ti57 ti58 ti59 ti60 ti61 ti62 ti63 ti64 ti65 ti66 ti67 ti68 ti69 ti70 ti71 ti72 ti73 ti74 ti75 ti76 ti77 ti78 ti79 ti80 ti81 ti82 ti83 ti84 ti85 ti86 ti87 ti88 ti89 ti90 ti91 ti92 ti93 ti94 ti95 ti96 ti97 ti98 ti99 ti100 ti101
def FJ : Fns := (FI.add 36 gWrite).add 37 gString
theorem FJ_ok (hG : GW K gw) : FOk (env K gw) FJ := ((FI_ok hG).add fun xs s r s' l h => gWrite_ok h).add fun xs s r s' l h => gString_ok h
def textS (l : List Sm) : Str × Int := if 200 < l.length then ([], 4) else if l.all mayB then (textL l, 0) else ([], 1)
theorem ft_Text (hG : GW K gw) (l : List Sm) (hl : l.length < LIM) (hok : ∀ m ∈ l, okS m = true) (hoi : ∀ m ∈ l, okI m = true) : FT (env K gw) NoW 18 [.sl (l.map Sm.cs)] s (.tup [.str (textS l).1, .int .i64 (textS l).2]) s := by
  refine FT.pure (fn := Tryd.f18) (FJ_ok hG) mixed Tryd.func18 (by kernel_rfl) (by rfl) rfl rfl (by simp) rfl fun μ w => ?_
  by_cases h200 : 200 < l.length
  · have h' : (200 : Int) < (l.length : Int) := by omega
    repeat' (first
      | refine WP.t ?_ | refine WP.k ?_ | refine WP.e ?_ | refine Qn ?_ | refine Qr ?_ | refine Qe ?_ | refine Bn ?_ | refine Br ?_ | refine Be ?_ | refine Bx (by decide) ?_
      | (refine RS.nl ?_; refine hk _ _ ?_; clear hk k)
      | (refine RS.st fun A B hA hB => ?_; simp [h', h200, onW_t, onW_f, onV_s]; first | (refine hA _ _ _ ?_ ?_; (focus (first | (simp [h', h200]; done) | (simp [h', h200]; omega))); clear hA hB A B) | (refine hB ?_; clear hA hB A B) | (refine onV_if ?_ ?_; (focus (first | omega | (refine ⟨?_, ?_⟩ <;> omega))); simp only [onV_s]; refine hA _ _ _ ?_ ?_; (focus (first | (simp [h', h200]; done) | (simp [h', h200]; omega))); clear hA hB A B))
      | (refine RQ.nl ?_; refine hk _ _ ?_; clear hk k)
      | (refine RQ.st fun A B hA hB => ?_; simp [h', h200, onW_t, onW_f, onV_s]; first | (refine hA _ _ _ ?_ (by first | exact .inl rfl | exact .inr (by decide)) ?_; (focus (first | (simp [h', h200]; done) | (simp [h', h200]; omega))); clear hA hB A B) | (refine hB ?_; clear hA hB A B) | (refine onV_if ?_ ?_; (focus (first | omega | (refine ⟨?_, ?_⟩ <;> omega))); simp only [onV_s]; refine hA _ _ _ ?_ (by first | exact .inl rfl | exact .inr (by decide)) ?_; (focus (first | (simp [h', h200]; done) | (simp [h', h200]; omega))); clear hA hB A B))
      | refine WP.sr fun k hk => ?_ | refine WP.r fun k hk => ?_
      | refine WP.sd _ rfl fun k hk => ?_ | refine WP.d _ rfl fun k hk => ?_
      | (refine WP.cc fun A B hA hB => ?_; simp [h', h200, onB_t, onB_f]; first | (refine hA ?_; clear hA hB A B) | (refine hB ?_; clear hA hB A B) | (refine onB_if (fun h => hA ?_) (fun h => hB ?_) <;> clear hA hB A B))
      | refine WP.q ?_ | refine WP.b ?_)
    simp [textS, h200]
  have h' : ¬ (200 : Int) < (l.length : Int) := by omega
  repeat' (first
    | refine WP.t ?_ | refine WP.k ?_ | refine WP.e ?_ | refine Qn ?_ | refine Qr ?_ | refine Qe ?_ | refine Bn ?_ | refine Br ?_ | refine Be ?_ | refine Bx (by decide) ?_
    | (refine RS.nl ?_; refine hk _ _ ?_; clear hk k)
    | (refine RS.st fun A B hA hB => ?_; simp [h', h200, onW_t, onW_f, onV_s]; first | (refine hA _ _ _ ?_ ?_; (focus (first | (simp [h', h200]; done) | (simp [h', h200]; omega))); clear hA hB A B) | (refine hB ?_; clear hA hB A B) | (refine onV_if ?_ ?_; (focus (first | omega | (refine ⟨?_, ?_⟩ <;> omega))); simp only [onV_s]; refine hA _ _ _ ?_ ?_; (focus (first | (simp [h', h200]; done) | (simp [h', h200]; omega))); clear hA hB A B))
    | (refine RQ.nl ?_; refine hk _ _ ?_; clear hk k)
    | (refine RQ.st fun A B hA hB => ?_; simp [h', h200, onW_t, onW_f, onV_s]; first | (refine hA _ _ _ ?_ (by first | exact .inl rfl | exact .inr (by decide)) ?_; (focus (first | (simp [h', h200]; done) | (simp [h', h200]; omega))); clear hA hB A B) | (refine hB ?_; clear hA hB A B) | (refine onV_if ?_ ?_; (focus (first | omega | (refine ⟨?_, ?_⟩ <;> omega))); simp only [onV_s]; refine hA _ _ _ ?_ (by first | exact .inl rfl | exact .inr (by decide)) ?_; (focus (first | (simp [h', h200]; done) | (simp [h', h200]; omega))); clear hA hB A B))
    | refine WP.sr fun k hk => ?_ | refine WP.r fun k hk => ?_
    | refine WP.sd _ rfl fun k hk => ?_ | refine WP.d _ rfl fun k hk => ?_
    | (refine WP.cc fun A B hA hB => ?_; simp [h', h200, onB_t, onB_f]; first | (refine hA ?_; clear hA hB A B) | (refine hB ?_; clear hA hB A B) | (refine onB_if (fun h => hA ?_) (fun h => hB ?_) <;> clear hA hB A B))
    | refine WP.q ?_ | refine WP.b ?_)
  refine WP_loopS (fun i : Nat => [(4, .ptr s.nx 0), (10, .sl (l.map Sm.cs)), (11, .int .i64 l.length), (12, .int .i64 i)]) (fun i s' => i ≤ l.length ∧ s.nx < s'.nx ∧ (l.take i).all mayB = true ∧
    ((i = 0 ∧ s'.get s.nx = some (.var 58 [.np, .nsl])) ∨ (0 < i ∧ ∃ rd, s.nx < rd ∧ rd < s'.nx ∧ s'.get s.nx = some (.var 58 [.ptr s.nx 0, .ls rd 0 (textL (l.take i)).length]) ∧ s'.get rd = some (.row 1 (true, 5) (byteRow (textL (l.take i)))))))
    (fun i => l.length - i) 0 (by simp) ⟨by omega, by simp, by simp, .inl ⟨rfl, by simp⟩⟩ ?_
  rintro i s' ⟨hi, hnx, hall, hB⟩
  by_cases hi2 : i < l.length
  · have hx : l[i]? = some l[i] := List.getElem?_eq_getElem hi2
    have hm := hok l[i] (List.getElem_mem hi2)
    have hmi := hoi l[i] (List.getElem_mem hi2)
    have hmem : l[i] ∈ l := List.getElem_mem hi2
    have htk : l.take (i + 1) = l.take i ++ [l[i]] := List.take_succ_eq_append_getElem hi2
    have hw := wrap_succ hi2 hl
    have hlen : (textL (l.take i)).length ≤ 201 * i := by
      refine Nat.le_trans (textL_le (fun m hm => List.all_eq_true.1 hall m hm) fun m hm => hoi m (List.mem_of_mem_take hm)) ?_
      rw [List.length_take]; omega
    generalize hv : l[i] = m at *
    have hcs : m.cs = [.int .i64 m.k, .str m.x, .str m.y, .str m.z, .str m.o, .int .i64 m.n, .int .i64 m.a, .int .i64 m.b] := rfl
    cases hmay : mayB m
    · skip
      repeat' (first
        | refine WP.t ?_ | refine WP.k ?_ | refine WP.e ?_ | refine Qn ?_ | refine Qr ?_ | refine Qe ?_ | refine Bn ?_ | refine Br ?_ | refine Be ?_ | refine Bx (by decide) ?_
        | (refine RS.nl ?_; refine hk _ _ ?_; clear hk k)
        | (refine RS.st fun A B hA hB => ?_; simp [FJ, FI, FH, FG, hi2, hx, hv, hm, hcs, hmay, onW_t, onW_f, onV_s]; first | (refine hA _ _ _ ?_ ?_; (focus (first | (simp [FJ, FI, FH, FG, hi2, hx, hv, hm, hcs, hmay]; done) | (simp [FJ, FI, FH, FG, hi2, hx, hv, hm, hcs, hmay]; omega))); clear hA hB A B) | (refine hB ?_; clear hA hB A B) | (refine onV_if ?_ ?_; (focus (first | omega | (refine ⟨?_, ?_⟩ <;> omega))); simp only [onV_s]; refine hA _ _ _ ?_ ?_; (focus (first | (simp [FJ, FI, FH, FG, hi2, hx, hv, hm, hcs, hmay]; done) | (simp [FJ, FI, FH, FG, hi2, hx, hv, hm, hcs, hmay]; omega))); clear hA hB A B))
        | (refine RQ.nl ?_; refine hk _ _ ?_; clear hk k)
        | (refine RQ.st fun A B hA hB => ?_; simp [FJ, FI, FH, FG, hi2, hx, hv, hm, hcs, hmay, onW_t, onW_f, onV_s]; first | (refine hA _ _ _ ?_ (by first | exact .inl rfl | exact .inr (by decide)) ?_; (focus (first | (simp [FJ, FI, FH, FG, hi2, hx, hv, hm, hcs, hmay]; done) | (simp [FJ, FI, FH, FG, hi2, hx, hv, hm, hcs, hmay]; omega))); clear hA hB A B) | (refine hB ?_; clear hA hB A B) | (refine onV_if ?_ ?_; (focus (first | omega | (refine ⟨?_, ?_⟩ <;> omega))); simp only [onV_s]; refine hA _ _ _ ?_ (by first | exact .inl rfl | exact .inr (by decide)) ?_; (focus (first | (simp [FJ, FI, FH, FG, hi2, hx, hv, hm, hcs, hmay]; done) | (simp [FJ, FI, FH, FG, hi2, hx, hv, hm, hcs, hmay]; omega))); clear hA hB A B))
        | refine WP.sr fun k hk => ?_ | refine WP.r fun k hk => ?_
        | refine WP.sd _ rfl fun k hk => ?_ | refine WP.d _ rfl fun k hk => ?_
        | (refine WP.cc fun A B hA hB => ?_; simp [FJ, FI, FH, FG, hi2, hx, hv, hm, hcs, hmay, onB_t, onB_f]; first | (refine hA ?_; clear hA hB A B) | (refine hB ?_; clear hA hB A B) | (refine onB_if (fun h => hA ?_) (fun h => hB ?_) <;> clear hA hB A B))
        | refine WP.q ?_ | refine WP.b ?_)
      have : l.all mayB = false := List.all_eq_false.2 ⟨m, hmem, by simp [hmay]⟩
      simp [textS, h200, this]
    · have hokw := okW_of (may_short hmay) hmi
      have hll := line_le (may_short hmay) hmi
      have et : textL (l.take (i + 1)) = textL (l.take i) ++ lineS m ++ [10] := by rw [htk, textL_app]; simp [textL]
      have hall2 : (l.take (i + 1)).all mayB = true := by rw [htk, List.all_append, hall]; simp [hmay]
      have e1 : ¬ s.nx = s'.nx := by omega
      have e2 : ¬ s.nx = s'.nx + 1 := by omega
      have e3 : s.nx < s'.nx + 1 := by omega
      have e4 : s.nx < s'.nx + 1 + 1 := by omega
      have e5 : s.nx < s'.nx + 2 := by omega
      have e6 : ¬ s.nx = s'.nx + 2 := by omega
      have e7 : s.nx < s'.nx + 3 := by omega
      have e8 : ¬ s'.nx + 1 = s.nx := by omega
      have e9 : ¬ s'.nx + 2 = s.nx := by omega
      have w1 : s.nx ≤ s'.nx + 1 := by omega
      have w2 : s.nx ≤ s'.nx + 2 := by omega
      have w3 : s.nx ≤ s'.nx := by omega
      generalize hL : lineS m = L at *
      rcases hB with ⟨rfl, hb⟩ | ⟨hi0, rd, hrd, hrd2, hb, hr⟩
      · have g1 : L.length ≤ 140737488355328 := by omega
        have g2 : L.length ≤ 140737488355327 := by omega
        repeat' (first
          | refine WP.t ?_ | refine WP.k ?_ | refine WP.e ?_ | refine Qn ?_ | refine Qr ?_ | refine Qe ?_ | refine Bn ?_ | refine Br ?_ | refine Be ?_ | refine Bx (by decide) ?_
          | (refine RS.nl ?_; refine hk _ _ ?_; clear hk k)
          | (refine RS.st fun A B hA hB => ?_; simp [FJ, FI, FH, FG, hi2, hx, hv, hm, hcs, hmay, hokw, hL, hb, gWrite, okp, hnx, e1, e2, e3, e4, e5, e6, e7, e8, e9, w1, w2, w3, g1, g2, hw, onW_t, onW_f, onV_s]; first | (refine hA _ _ _ ?_ ?_; (focus (first | (simp [FJ, FI, FH, FG, hi2, hx, hv, hm, hcs, hmay, hokw, hL, hb, gWrite, okp, hnx, e1, e2, e3, e4, e5, e6, e7, e8, e9, w1, w2, w3, g1, g2, hw]; done) | (simp [FJ, FI, FH, FG, hi2, hx, hv, hm, hcs, hmay, hokw, hL, hb, gWrite, okp, hnx, e1, e2, e3, e4, e5, e6, e7, e8, e9, w1, w2, w3, g1, g2, hw]; omega))); clear hA hB A B) | (refine hB ?_; clear hA hB A B) | (refine onV_if ?_ ?_; (focus (first | omega | (refine ⟨?_, ?_⟩ <;> omega))); simp only [onV_s]; refine hA _ _ _ ?_ ?_; (focus (first | (simp [FJ, FI, FH, FG, hi2, hx, hv, hm, hcs, hmay, hokw, hL, hb, gWrite, okp, hnx, e1, e2, e3, e4, e5, e6, e7, e8, e9, w1, w2, w3, g1, g2, hw]; done) | (simp [FJ, FI, FH, FG, hi2, hx, hv, hm, hcs, hmay, hokw, hL, hb, gWrite, okp, hnx, e1, e2, e3, e4, e5, e6, e7, e8, e9, w1, w2, w3, g1, g2, hw]; omega))); clear hA hB A B))
          | (refine RQ.nl ?_; refine hk _ _ ?_; clear hk k)
          | (refine RQ.st fun A B hA hB => ?_; simp [FJ, FI, FH, FG, hi2, hx, hv, hm, hcs, hmay, hokw, hL, hb, gWrite, okp, hnx, e1, e2, e3, e4, e5, e6, e7, e8, e9, w1, w2, w3, g1, g2, hw, onW_t, onW_f, onV_s]; first | (refine hA _ _ _ ?_ (by first | exact .inl rfl | exact .inr (by decide)) ?_; (focus (first | (simp [FJ, FI, FH, FG, hi2, hx, hv, hm, hcs, hmay, hokw, hL, hb, gWrite, okp, hnx, e1, e2, e3, e4, e5, e6, e7, e8, e9, w1, w2, w3, g1, g2, hw]; done) | (simp [FJ, FI, FH, FG, hi2, hx, hv, hm, hcs, hmay, hokw, hL, hb, gWrite, okp, hnx, e1, e2, e3, e4, e5, e6, e7, e8, e9, w1, w2, w3, g1, g2, hw]; omega))); clear hA hB A B) | (refine hB ?_; clear hA hB A B) | (refine onV_if ?_ ?_; (focus (first | omega | (refine ⟨?_, ?_⟩ <;> omega))); simp only [onV_s]; refine hA _ _ _ ?_ (by first | exact .inl rfl | exact .inr (by decide)) ?_; (focus (first | (simp [FJ, FI, FH, FG, hi2, hx, hv, hm, hcs, hmay, hokw, hL, hb, gWrite, okp, hnx, e1, e2, e3, e4, e5, e6, e7, e8, e9, w1, w2, w3, g1, g2, hw]; done) | (simp [FJ, FI, FH, FG, hi2, hx, hv, hm, hcs, hmay, hokw, hL, hb, gWrite, okp, hnx, e1, e2, e3, e4, e5, e6, e7, e8, e9, w1, w2, w3, g1, g2, hw]; omega))); clear hA hB A B))
          | refine WP.sr fun k hk => ?_ | refine WP.r fun k hk => ?_
          | refine WP.sd _ rfl fun k hk => ?_ | refine WP.d _ rfl fun k hk => ?_
          | (refine WP.cc fun A B hA hB => ?_; simp [FJ, FI, FH, FG, hi2, hx, hv, hm, hcs, hmay, hokw, hL, hb, gWrite, okp, hnx, e1, e2, e3, e4, e5, e6, e7, e8, e9, w1, w2, w3, g1, g2, hw, onB_t, onB_f]; first | (refine hA ?_; clear hA hB A B) | (refine hB ?_; clear hA hB A B) | (refine onB_if (fun h => hA ?_) (fun h => hB ?_) <;> clear hA hB A B))
          | refine WP.q ?_ | refine WP.b ?_)
        have et1 : textL (List.take 1 l) = L ++ [10] := by rw [show 1 = 0 + 1 from rfl, et]; simp [textL]
        refine ⟨1, by omega, by simp [wrap64 (x := 1) (by omega) (by omega)], by omega, by simp; omega, hall2, .inr ⟨by omega, s'.nx + 2, by omega, by simp, ?_, ?_⟩⟩
        · simp [et1]
        · simp [et1, e9]
      · have g1 : (textL (l.take i)).length + L.length ≤ 140737488355328 := by omega
        have g2 : (textL (l.take i)).length + L.length ≤ 140737488355327 := by omega
        have r1 : ¬ rd = s'.nx := by omega
        have r2 : ¬ rd = s'.nx + 1 := by omega
        have r3 : ¬ rd = s.nx := by omega
        have r4 : rd < s'.nx + 1 := by omega
        have r5 : ¬ s.nx = rd := by omega
        have r6 : ¬ rd = s'.nx + 2 := by omega
        have r7 : s.nx ≤ rd := by omega
        generalize hY : textL (l.take i) = Y at *
        repeat' (first
          | refine WP.t ?_ | refine WP.k ?_ | refine WP.e ?_ | refine Qn ?_ | refine Qr ?_ | refine Qe ?_ | refine Bn ?_ | refine Br ?_ | refine Be ?_ | refine Bx (by decide) ?_
          | (refine RS.nl ?_; refine hk _ _ ?_; clear hk k)
          | (refine RS.st fun A B hA hB => ?_; simp [FJ, FI, FH, FG, hi2, hx, hv, hm, hcs, hmay, hokw, hL, hb, hr, gWrite, okp, hnx, e1, e2, e3, e4, e5, e6, e7, e8, e9, w1, w2, w3, g1, g2, hw, r1, r2, r3, r4, r5, r6, r7, St.get_drop, onW_t, onW_f, onV_s]; first | (refine hA _ _ _ ?_ ?_; (focus (first | (simp [FJ, FI, FH, FG, hi2, hx, hv, hm, hcs, hmay, hokw, hL, hb, hr, gWrite, okp, hnx, e1, e2, e3, e4, e5, e6, e7, e8, e9, w1, w2, w3, g1, g2, hw, r1, r2, r3, r4, r5, r6, r7, St.get_drop]; done) | (simp [FJ, FI, FH, FG, hi2, hx, hv, hm, hcs, hmay, hokw, hL, hb, hr, gWrite, okp, hnx, e1, e2, e3, e4, e5, e6, e7, e8, e9, w1, w2, w3, g1, g2, hw, r1, r2, r3, r4, r5, r6, r7, St.get_drop]; omega))); clear hA hB A B) | (refine hB ?_; clear hA hB A B) | (refine onV_if ?_ ?_; (focus (first | omega | (refine ⟨?_, ?_⟩ <;> omega))); simp only [onV_s]; refine hA _ _ _ ?_ ?_; (focus (first | (simp [FJ, FI, FH, FG, hi2, hx, hv, hm, hcs, hmay, hokw, hL, hb, hr, gWrite, okp, hnx, e1, e2, e3, e4, e5, e6, e7, e8, e9, w1, w2, w3, g1, g2, hw, r1, r2, r3, r4, r5, r6, r7, St.get_drop]; done) | (simp [FJ, FI, FH, FG, hi2, hx, hv, hm, hcs, hmay, hokw, hL, hb, hr, gWrite, okp, hnx, e1, e2, e3, e4, e5, e6, e7, e8, e9, w1, w2, w3, g1, g2, hw, r1, r2, r3, r4, r5, r6, r7, St.get_drop]; omega))); clear hA hB A B))
          | (refine RQ.nl ?_; refine hk _ _ ?_; clear hk k)
          | (refine RQ.st fun A B hA hB => ?_; simp [FJ, FI, FH, FG, hi2, hx, hv, hm, hcs, hmay, hokw, hL, hb, hr, gWrite, okp, hnx, e1, e2, e3, e4, e5, e6, e7, e8, e9, w1, w2, w3, g1, g2, hw, r1, r2, r3, r4, r5, r6, r7, St.get_drop, onW_t, onW_f, onV_s]; first | (refine hA _ _ _ ?_ (by first | exact .inl rfl | exact .inr (by decide)) ?_; (focus (first | (simp [FJ, FI, FH, FG, hi2, hx, hv, hm, hcs, hmay, hokw, hL, hb, hr, gWrite, okp, hnx, e1, e2, e3, e4, e5, e6, e7, e8, e9, w1, w2, w3, g1, g2, hw, r1, r2, r3, r4, r5, r6, r7, St.get_drop]; done) | (simp [FJ, FI, FH, FG, hi2, hx, hv, hm, hcs, hmay, hokw, hL, hb, hr, gWrite, okp, hnx, e1, e2, e3, e4, e5, e6, e7, e8, e9, w1, w2, w3, g1, g2, hw, r1, r2, r3, r4, r5, r6, r7, St.get_drop]; omega))); clear hA hB A B) | (refine hB ?_; clear hA hB A B) | (refine onV_if ?_ ?_; (focus (first | omega | (refine ⟨?_, ?_⟩ <;> omega))); simp only [onV_s]; refine hA _ _ _ ?_ (by first | exact .inl rfl | exact .inr (by decide)) ?_; (focus (first | (simp [FJ, FI, FH, FG, hi2, hx, hv, hm, hcs, hmay, hokw, hL, hb, hr, gWrite, okp, hnx, e1, e2, e3, e4, e5, e6, e7, e8, e9, w1, w2, w3, g1, g2, hw, r1, r2, r3, r4, r5, r6, r7, St.get_drop]; done) | (simp [FJ, FI, FH, FG, hi2, hx, hv, hm, hcs, hmay, hokw, hL, hb, hr, gWrite, okp, hnx, e1, e2, e3, e4, e5, e6, e7, e8, e9, w1, w2, w3, g1, g2, hw, r1, r2, r3, r4, r5, r6, r7, St.get_drop]; omega))); clear hA hB A B))
          | refine WP.sr fun k hk => ?_ | refine WP.r fun k hk => ?_
          | refine WP.sd _ rfl fun k hk => ?_ | refine WP.d _ rfl fun k hk => ?_
          | (refine WP.cc fun A B hA hB => ?_; simp [FJ, FI, FH, FG, hi2, hx, hv, hm, hcs, hmay, hokw, hL, hb, hr, gWrite, okp, hnx, e1, e2, e3, e4, e5, e6, e7, e8, e9, w1, w2, w3, g1, g2, hw, r1, r2, r3, r4, r5, r6, r7, St.get_drop, onB_t, onB_f]; first | (refine hA ?_; clear hA hB A B) | (refine hB ?_; clear hA hB A B) | (refine onB_if (fun h => hA ?_) (fun h => hB ?_) <;> clear hA hB A B))
          | refine WP.q ?_ | refine WP.b ?_)
        refine ⟨i + 1, by omega, by simp, by omega, by simp; omega, hall2, .inr ⟨by omega, s'.nx + 2, by omega, by simp, ?_, ?_⟩⟩
        · simp [et, hL]
          omega
        · simp [et, hL, e9]
  · have he : l.take i = l := List.take_of_length_le (by omega)
    rw [he] at hall hB
    have hlen : (textL l).length ≤ 201 * l.length := textL_le (fun m hm => List.all_eq_true.1 hall m hm) hoi
    rcases hB with ⟨rfl, hb⟩ | ⟨hi0, rd, hrd, hrd2, hb, hr⟩
    · have : l = [] := List.eq_nil_of_length_eq_zero (by omega)
      subst this
      repeat' (first
        | refine WP.t ?_ | refine WP.k ?_ | refine WP.e ?_ | refine Qn ?_ | refine Qr ?_ | refine Qe ?_ | refine Bn ?_ | refine Br ?_ | refine Be ?_ | refine Bx (by decide) ?_
        | (refine RS.nl ?_; refine hk _ _ ?_; clear hk k)
        | (refine RS.st fun A B hA hB => ?_; simp [FJ, hi2, hb, gString, hnx, onW_t, onW_f, onV_s]; first | (refine hA _ _ _ ?_ ?_; (focus (first | (simp [FJ, hi2, hb, gString, hnx]; done) | (simp [FJ, hi2, hb, gString, hnx]; omega))); clear hA hB A B) | (refine hB ?_; clear hA hB A B) | (refine onV_if ?_ ?_; (focus (first | omega | (refine ⟨?_, ?_⟩ <;> omega))); simp only [onV_s]; refine hA _ _ _ ?_ ?_; (focus (first | (simp [FJ, hi2, hb, gString, hnx]; done) | (simp [FJ, hi2, hb, gString, hnx]; omega))); clear hA hB A B))
        | (refine RQ.nl ?_; refine hk _ _ ?_; clear hk k)
        | (refine RQ.st fun A B hA hB => ?_; simp [FJ, hi2, hb, gString, hnx, onW_t, onW_f, onV_s]; first | (refine hA _ _ _ ?_ (by first | exact .inl rfl | exact .inr (by decide)) ?_; (focus (first | (simp [FJ, hi2, hb, gString, hnx]; done) | (simp [FJ, hi2, hb, gString, hnx]; omega))); clear hA hB A B) | (refine hB ?_; clear hA hB A B) | (refine onV_if ?_ ?_; (focus (first | omega | (refine ⟨?_, ?_⟩ <;> omega))); simp only [onV_s]; refine hA _ _ _ ?_ (by first | exact .inl rfl | exact .inr (by decide)) ?_; (focus (first | (simp [FJ, hi2, hb, gString, hnx]; done) | (simp [FJ, hi2, hb, gString, hnx]; omega))); clear hA hB A B))
        | refine WP.sr fun k hk => ?_ | refine WP.r fun k hk => ?_
        | refine WP.sd _ rfl fun k hk => ?_ | refine WP.d _ rfl fun k hk => ?_
        | (refine WP.cc fun A B hA hB => ?_; simp [FJ, hi2, hb, gString, hnx, onB_t, onB_f]; first | (refine hA ?_; clear hA hB A B) | (refine hB ?_; clear hA hB A B) | (refine onB_if (fun h => hA ?_) (fun h => hB ?_) <;> clear hA hB A B))
        | refine WP.q ?_ | refine WP.b ?_)
      simp [textS, textL]
    · have g1 : (textL l).length ≤ 140737488355328 := by omega
      have g0 : 0 < (textL l).length := by
        match l, hi, hi2 with
        | [], _, _ => simp at *; omega
        | m :: l, _, _ => simp [textL]; omega
      have r3 : ¬ rd = s.nx := by omega
      have r7 : s.nx ≤ rd := by omega
      repeat' (first
        | refine WP.t ?_ | refine WP.k ?_ | refine WP.e ?_ | refine Qn ?_ | refine Qr ?_ | refine Qe ?_ | refine Bn ?_ | refine Br ?_ | refine Be ?_ | refine Bx (by decide) ?_
        | (refine RS.nl ?_; refine hk _ _ ?_; clear hk k)
        | (refine RS.st fun A B hA hB => ?_; simp [FJ, hi2, hb, hr, gString, hnx, hrd2, g0, g1, r3, r7, onW_t, onW_f, onV_s]; first | (refine hA _ _ _ ?_ ?_; (focus (first | (simp [FJ, hi2, hb, hr, gString, hnx, hrd2, g0, g1, r3, r7]; done) | (simp [FJ, hi2, hb, hr, gString, hnx, hrd2, g0, g1, r3, r7]; omega))); clear hA hB A B) | (refine hB ?_; clear hA hB A B) | (refine onV_if ?_ ?_; (focus (first | omega | (refine ⟨?_, ?_⟩ <;> omega))); simp only [onV_s]; refine hA _ _ _ ?_ ?_; (focus (first | (simp [FJ, hi2, hb, hr, gString, hnx, hrd2, g0, g1, r3, r7]; done) | (simp [FJ, hi2, hb, hr, gString, hnx, hrd2, g0, g1, r3, r7]; omega))); clear hA hB A B))
        | (refine RQ.nl ?_; refine hk _ _ ?_; clear hk k)
        | (refine RQ.st fun A B hA hB => ?_; simp [FJ, hi2, hb, hr, gString, hnx, hrd2, g0, g1, r3, r7, onW_t, onW_f, onV_s]; first | (refine hA _ _ _ ?_ (by first | exact .inl rfl | exact .inr (by decide)) ?_; (focus (first | (simp [FJ, hi2, hb, hr, gString, hnx, hrd2, g0, g1, r3, r7]; done) | (simp [FJ, hi2, hb, hr, gString, hnx, hrd2, g0, g1, r3, r7]; omega))); clear hA hB A B) | (refine hB ?_; clear hA hB A B) | (refine onV_if ?_ ?_; (focus (first | omega | (refine ⟨?_, ?_⟩ <;> omega))); simp only [onV_s]; refine hA _ _ _ ?_ (by first | exact .inl rfl | exact .inr (by decide)) ?_; (focus (first | (simp [FJ, hi2, hb, hr, gString, hnx, hrd2, g0, g1, r3, r7]; done) | (simp [FJ, hi2, hb, hr, gString, hnx, hrd2, g0, g1, r3, r7]; omega))); clear hA hB A B))
        | refine WP.sr fun k hk => ?_ | refine WP.r fun k hk => ?_
        | refine WP.sd _ rfl fun k hk => ?_ | refine WP.d _ rfl fun k hk => ?_
        | (refine WP.cc fun A B hA hB => ?_; simp [FJ, hi2, hb, hr, gString, hnx, hrd2, g0, g1, r3, r7, onB_t, onB_f]; first | (refine hA ?_; clear hA hB A B) | (refine hB ?_; clear hA hB A B) | (refine onB_if (fun h => hA ?_) (fun h => hB ?_) <;> clear hA hB A B))
        | refine WP.q ?_ | refine WP.b ?_)
      simp [textS, h200, hall]
end
end Go.Am
namespace Go.Am
open Go.Proofs Go.Shelf
theorem numI_ok (x : Str) : i64ok (numI x) = true := by
  have key : -9223372036854775808 ≤ numI x ∧ numI x ≤ 9223372036854775807 := by
    unfold numI
    rcases h : Lib.parseIntB 64 x with v | _ | _
    · simp only
      unfold Lib.parseIntB at h
      split at h
      · cases h
      · simp only at h
        split at h
        · cases h
        · cases h
        · split at h
          · cases h
          · split at h
            · cases h
            · cases h
              simp only [Nat.reduceSub, Nat.reducePow, not_and, Nat.not_le, Nat.not_lt] at *
              split <;> omega
    · simp
    · simp only [Lib.intSat]
      split <;> simp
  simpa [i64ok] using key
theorem splitC_len (c : UInt8) (sv : Nat) : ∀ x : Str, (splitC c sv x).length ≤ x.length + 1
  | [] => by simp [splitC]
  | b :: l => by
    have ih := splitC_len c sv l
    unfold splitC
    split
    · simp; omega
    · obtain ⟨h, t, e⟩ := splitC_ne c sv l
      rw [e] at ih ⊢
      simp at ih ⊢; omega
theorem splitC_mem (c : UInt8) (sv : Nat) : ∀ (x y : Str), y ∈ splitC c sv x → y.length ≤ x.length
  | [], y, h => by simp [splitC] at h; subst h; simp
  | b :: l, y, h => by
    unfold splitC at h
    split at h
    · rcases List.mem_cons.1 h with rfl | h
      · simp; omega
      · have := splitC_mem c sv l y h; simp; omega
    · obtain ⟨p, t, e⟩ := splitC_ne c sv l
      rw [e] at h
      rcases List.mem_cons.1 h with rfl | h
      · have := splitC_mem c sv l p (by rw [e]; simp)
        simp; omega
      · have := splitC_mem c sv l y (by rw [e]; simp [h])
        simp; omega
theorem trim_len (x p : Str) : (Lib.trimSuffix x p).length ≤ x.length := by
  unfold Lib.trimSuffix
  split
  · simp
  · omega
theorem getD_le {w : List Str} {B : Nat} (h : ∀ x ∈ w, x.length ≤ B) (i : Nat) : (w.getD i []).length ≤ B := by
  rw [List.getD_eq_getElem?_getD]
  cases hg : w[i]? with
  | none => simp
  | some y => simpa using h y (List.mem_of_getElem? hg)
theorem told_ok {w : List Str} (h : ∀ x ∈ w, x.length ≤ 100000000) : okS (toldS w) = true ∧ okI (toldS w) = true := by
  have g0 := getD_le h 0
  have g1 := getD_le h 1
  have g2 := getD_le h 2
  have g3 := getD_le h 3
  have g4 := getD_le h 4
  have n0 : i64ok 0 = true := rfl
  unfold toldS
  repeat' split
  all_goals
    simp only [okS, okI, Bool.and_eq_true, decide_eq_true_eq, numI_ok, n0, LIM, List.length_nil, and_self, and_true, true_and]
  all_goals first | trivial | omega | (refine ⟨?_, ?_⟩ <;> omega) | skip
/-- A line's statement, and whether it is one. -/
def stOf (x : Str) : Sm := toldS (splitC 32 0 (Lib.trimSuffix x [10]))
def goodL (x : Str) : Bool := mayB (stOf x) && (lineS (stOf x) ++ [10] == x)
def linesOf (x : Str) : List Str := if (splitC 10 1 x).getLast? = some [] then (splitC 10 1 x).dropLast else splitC 10 1 x
def parseS (x : Str) : List Sm × Int × Int :=
  if 200 < (linesOf x).length then ([], 0, 4) else if (linesOf x).all goodL then ((linesOf x).map stOf, 0, 0) else ([], ((linesOf x).findIdx fun y => !goodL y : Nat), 2)
end Go.Am
