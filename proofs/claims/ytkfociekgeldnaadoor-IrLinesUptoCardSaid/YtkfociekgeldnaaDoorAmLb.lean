/- Part of the proof: abstract values over the given model of Go (L2). Conditions: none of its own; see the statement in the seat's Rows text. -/
import Derived.Test.YtkfociekgeldnaaDoorAmLa
import Derived.Test.YtkfociekgeldnaaDoorAmPb
set_option linter.unusedSimpArgs false
set_option linter.unusedVariables false
set_option linter.unusedSectionVars false
namespace Go.Am
open Go.Proofs Go.Shelf
section
variable {K : Nat} {gw : World} {s : St}
attribute [local simp] awanted xop zOf zrow aop ev T0 Slots.put Slots.set Slots.get awr WOk AV.may ofConst abinop aint isConst St.get_push St.get_put St.live AV.fit AV.cells AV.one fieldOf afieldAddr aload ofCells astore splice May eqres env_ti FinP FinZ FinW ares aresL ares1 Fns.addP Fns.add Fns.a0 Fns.a1 Fns.a2 Fns.a3 Fns.a4 abuiltin alenOk alen aindex elemOfT elemId abuildSlice afill chunks ard aappend isSS AV.isStr aminmax placesOf abuild afield aidx isStrD isStrDesc astrop aslice asliceOk abound arange anext aextract aunop aeq AV.ck avseq aveq aconv aconvert onB_t onB_f List.range_succ ti0 ti1 ti2 ti3 ti4 ti5 ti6 ti7 ti8 ti9 ti10 ti11 ti12 ti13 ti14 ti15 ti16 ti17 ti18 ti19 ti20 ti21 ti22 ti23 ti24 ti25 ti26 ti27 ti28 ti29 ti30 ti31 ti32 ti33 ti34 ti35 ti36 ti37 ti38 ti39 ti40 ti41 ti42 ti43 ti44 ti45 ti46 ti47 ti48 ti49 ti50 ti51 ti52 ti53 ti54 ti55 ti56 ti57 ti58 ti59 ti60 ti61 ti62 ti63 ti64 ti65 ti66 ti67 ti68 ti69 ti70 ti71 ti72 ti73 ti74 ti75 ti76 ti77 ti78 ti79 ti80 ti81 ti82 ti83 ti84 ti85 ti86 ti87 ti88 ti89 ti90 ti91 ti92 ti93 ti94 ti95 ti96 ti97 ti98 ti99 ti100 ti101
theorem text_ok (l : List Sm) (h : (textS l).2 = 0) : l.length ≤ 200 ∧ (∀ m ∈ l, mayB m = true) ∧ (textS l).1 = textL l := by
  unfold textS at h ⊢
  split at h
  · simp at h
  · rename_i h2
    split at h
    · rename_i h3
      rw [if_neg h2, if_pos h3]
      exact ⟨by omega, List.all_eq_true.1 h3, rfl⟩
    · simp at h
theorem text_no (l : List Sm) (h : (textS l).2 ≠ 0) : (textS l).1 = [] := by
  unfold textS at h ⊢
  split
  · rfl
  · rename_i h2
    rw [if_neg h2] at h
    split
    · rename_i h3; rw [if_pos h3] at h; exact absurd rfl h
    · rfl
theorem ft_IrBack (hG : GW K gw) (l : List Sm) (hl : OkL l) : FT (env K gw) NoW 7 [.sl (l.map Sm.cs)] s (.bool true) s := by
  refine FT.pure (fn := Tryd.f7) (LB_ok hG) mixed Tryd.func7 (by kernel_rfl) (by rfl) rfl rfl (by simp) rfl fun μ w => ?_
  have hok := okL_iff.2 hl
  by_cases h300 : 300 < l.length
  · have h' : (300 : Int) < (l.length : Int) := by omega
    repeat' (first
      | refine WP.t ?_ | refine WP.k ?_ | refine WP.e ?_ | refine Qn ?_ | refine Qr ?_ | refine Qe ?_ | refine Bn ?_ | refine Br ?_ | refine Be ?_ | refine Bx (by decide) ?_
      | (refine RS.nl ?_; refine hk _ _ ?_; clear hk k)
      | (refine RS.st fun A B hA hB => ?_; simp [LB, h', h300, onW_t, onW_f, onV_s]; first | (refine hA _ _ _ ?_ ?_; (focus (first | (simp [LB, h', h300]; done) | (simp [LB, h', h300]; omega))); clear hA hB A B) | (refine hB ?_; clear hA hB A B) | (refine onV_if ?_ ?_; (focus (first | omega | (refine ⟨?_, ?_⟩ <;> omega))); simp only [onV_s]; refine hA _ _ _ ?_ ?_; (focus (first | (simp [LB, h', h300]; done) | (simp [LB, h', h300]; omega))); clear hA hB A B))
      | (refine RQ.nl ?_; refine hk _ _ ?_; clear hk k)
      | (refine RQ.st fun A B hA hB => ?_; simp [LB, h', h300, onW_t, onW_f, onV_s]; first | (refine hA _ _ _ ?_ (by first | exact .inl rfl | exact .inr (by decide)) ?_; (focus (first | (simp [LB, h', h300]; done) | (simp [LB, h', h300]; omega))); clear hA hB A B) | (refine hB ?_; clear hA hB A B) | (refine onV_if ?_ ?_; (focus (first | omega | (refine ⟨?_, ?_⟩ <;> omega))); simp only [onV_s]; refine hA _ _ _ ?_ (by first | exact .inl rfl | exact .inr (by decide)) ?_; (focus (first | (simp [LB, h', h300]; done) | (simp [LB, h', h300]; omega))); clear hA hB A B))
      | refine WP.sr fun k hk => ?_ | refine WP.r fun k hk => ?_
      | refine WP.sd _ rfl fun k hk => ?_ | refine WP.d _ rfl fun k hk => ?_
      | (refine WP.cc fun A B hA hB => ?_; simp [LB, h', h300, onB_t, onB_f]; first | (refine hA ?_; clear hA hB A B) | (refine hB ?_; clear hA hB A B) | (refine onB_if (fun h => hA ?_) (fun h => hB ?_) <;> clear hA hB A B))
      | refine WP.q ?_ | refine WP.b ?_)
    simp
  have h' : ¬ (300 : Int) < (l.length : Int) := by omega
  by_cases he : (textS l).2 = 0
  · obtain ⟨h2, hm, ht⟩ := text_ok l he
    have hp := text_back l h2 hm hl.i
    have hlen : (textL l).length ≤ 80000 := by have := textL_le hm hl.i; omega
    have hll := hl.len
    repeat' (first
      | refine WP.t ?_ | refine WP.k ?_ | refine WP.e ?_ | refine Qn ?_ | refine Qr ?_ | refine Qe ?_ | refine Bn ?_ | refine Br ?_ | refine Be ?_ | refine Bx (by decide) ?_
      | (refine RS.nl ?_; refine hk _ _ ?_; clear hk k)
      | (refine RS.st fun A B hA hB => ?_; simp [LB, LA, h', h300, hok, he, ht, hp, hlen, hll, onW_t, onW_f, onV_s]; first | (refine hA _ _ _ ?_ ?_; (focus (first | (simp [LB, LA, h', h300, hok, he, ht, hp, hlen, hll]; done) | (simp [LB, LA, h', h300, hok, he, ht, hp, hlen, hll]; omega))); clear hA hB A B) | (refine hB ?_; clear hA hB A B) | (refine onV_if ?_ ?_; (focus (first | omega | (refine ⟨?_, ?_⟩ <;> omega))); simp only [onV_s]; refine hA _ _ _ ?_ ?_; (focus (first | (simp [LB, LA, h', h300, hok, he, ht, hp, hlen, hll]; done) | (simp [LB, LA, h', h300, hok, he, ht, hp, hlen, hll]; omega))); clear hA hB A B))
      | (refine RQ.nl ?_; refine hk _ _ ?_; clear hk k)
      | (refine RQ.st fun A B hA hB => ?_; simp [LB, LA, h', h300, hok, he, ht, hp, hlen, hll, onW_t, onW_f, onV_s]; first | (refine hA _ _ _ ?_ (by first | exact .inl rfl | exact .inr (by decide)) ?_; (focus (first | (simp [LB, LA, h', h300, hok, he, ht, hp, hlen, hll]; done) | (simp [LB, LA, h', h300, hok, he, ht, hp, hlen, hll]; omega))); clear hA hB A B) | (refine hB ?_; clear hA hB A B) | (refine onV_if ?_ ?_; (focus (first | omega | (refine ⟨?_, ?_⟩ <;> omega))); simp only [onV_s]; refine hA _ _ _ ?_ (by first | exact .inl rfl | exact .inr (by decide)) ?_; (focus (first | (simp [LB, LA, h', h300, hok, he, ht, hp, hlen, hll]; done) | (simp [LB, LA, h', h300, hok, he, ht, hp, hlen, hll]; omega))); clear hA hB A B))
      | refine WP.sr fun k hk => ?_ | refine WP.r fun k hk => ?_
      | refine WP.sd _ rfl fun k hk => ?_ | refine WP.d _ rfl fun k hk => ?_
      | (refine WP.cc fun A B hA hB => ?_; simp [LB, LA, h', h300, hok, he, ht, hp, hlen, hll, onB_t, onB_f]; first | (refine hA ?_; clear hA hB A B) | (refine hB ?_; clear hA hB A B) | (refine onB_if (fun h => hA ?_) (fun h => hB ?_) <;> clear hA hB A B))
      | refine WP.q ?_ | refine WP.b ?_)
    simp
  · have ht := text_no l he
    have q : ((textS l).2 != 0) = true := by simpa using he
    have q2 : ((textS l).2 == 0) = false := by simpa using he
    repeat' (first
      | refine WP.t ?_ | refine WP.k ?_ | refine WP.e ?_ | refine Qn ?_ | refine Qr ?_ | refine Qe ?_ | refine Bn ?_ | refine Br ?_ | refine Be ?_ | refine Bx (by decide) ?_
      | (refine RS.nl ?_; refine hk _ _ ?_; clear hk k)
      | (refine RS.st fun A B hA hB => ?_; simp [LB, LA, h', h300, hok, he, ht, q, q2, onW_t, onW_f, onV_s]; first | (refine hA _ _ _ ?_ ?_; (focus (first | (simp [LB, LA, h', h300, hok, he, ht, q, q2]; done) | (simp [LB, LA, h', h300, hok, he, ht, q, q2]; omega))); clear hA hB A B) | (refine hB ?_; clear hA hB A B) | (refine onV_if ?_ ?_; (focus (first | omega | (refine ⟨?_, ?_⟩ <;> omega))); simp only [onV_s]; refine hA _ _ _ ?_ ?_; (focus (first | (simp [LB, LA, h', h300, hok, he, ht, q, q2]; done) | (simp [LB, LA, h', h300, hok, he, ht, q, q2]; omega))); clear hA hB A B))
      | (refine RQ.nl ?_; refine hk _ _ ?_; clear hk k)
      | (refine RQ.st fun A B hA hB => ?_; simp [LB, LA, h', h300, hok, he, ht, q, q2, onW_t, onW_f, onV_s]; first | (refine hA _ _ _ ?_ (by first | exact .inl rfl | exact .inr (by decide)) ?_; (focus (first | (simp [LB, LA, h', h300, hok, he, ht, q, q2]; done) | (simp [LB, LA, h', h300, hok, he, ht, q, q2]; omega))); clear hA hB A B) | (refine hB ?_; clear hA hB A B) | (refine onV_if ?_ ?_; (focus (first | omega | (refine ⟨?_, ?_⟩ <;> omega))); simp only [onV_s]; refine hA _ _ _ ?_ (by first | exact .inl rfl | exact .inr (by decide)) ?_; (focus (first | (simp [LB, LA, h', h300, hok, he, ht, q, q2]; done) | (simp [LB, LA, h', h300, hok, he, ht, q, q2]; omega))); clear hA hB A B))
      | refine WP.sr fun k hk => ?_ | refine WP.r fun k hk => ?_
      | refine WP.sd _ rfl fun k hk => ?_ | refine WP.d _ rfl fun k hk => ?_
      | (refine WP.cc fun A B hA hB => ?_; simp [LB, LA, h', h300, hok, he, ht, q, q2, onB_t, onB_f]; first | (refine hA ?_; clear hA hB A B) | (refine hB ?_; clear hA hB A B) | (refine onB_if (fun h => hA ?_) (fun h => hB ?_) <;> clear hA hB A B))
      | refine WP.q ?_ | refine WP.b ?_)
    simp
theorem ft_IrOnes (hG : GW K gw) (x : Str) (hx : x.length < LIM) : FT (env K gw) NoW 8 [.str x] s (.bool true) s := by
  refine FT.pure (fn := Tryd.f8) (LB_ok hG) mixed Tryd.func8 (by kernel_rfl) (by rfl) rfl rfl (by simp) rfl fun μ w => ?_
  by_cases h : 20000 < x.length
  · have h' : (20000 : Int) < (x.length : Int) := by omega
    repeat' (first
      | refine WP.t ?_ | refine WP.k ?_ | refine WP.e ?_ | refine Qn ?_ | refine Qr ?_ | refine Qe ?_ | refine Bn ?_ | refine Br ?_ | refine Be ?_ | refine Bx (by decide) ?_
      | (refine RS.nl ?_; refine hk _ _ ?_; clear hk k)
      | (refine RS.st fun A B hA hB => ?_; simp [LB, h', h, onW_t, onW_f, onV_s]; first | (refine hA _ _ _ ?_ ?_; (focus (first | (simp [LB, h', h]; done) | (simp [LB, h', h]; omega))); clear hA hB A B) | (refine hB ?_; clear hA hB A B) | (refine onV_if ?_ ?_; (focus (first | omega | (refine ⟨?_, ?_⟩ <;> omega))); simp only [onV_s]; refine hA _ _ _ ?_ ?_; (focus (first | (simp [LB, h', h]; done) | (simp [LB, h', h]; omega))); clear hA hB A B))
      | (refine RQ.nl ?_; refine hk _ _ ?_; clear hk k)
      | (refine RQ.st fun A B hA hB => ?_; simp [LB, h', h, onW_t, onW_f, onV_s]; first | (refine hA _ _ _ ?_ (by first | exact .inl rfl | exact .inr (by decide)) ?_; (focus (first | (simp [LB, h', h]; done) | (simp [LB, h', h]; omega))); clear hA hB A B) | (refine hB ?_; clear hA hB A B) | (refine onV_if ?_ ?_; (focus (first | omega | (refine ⟨?_, ?_⟩ <;> omega))); simp only [onV_s]; refine hA _ _ _ ?_ (by first | exact .inl rfl | exact .inr (by decide)) ?_; (focus (first | (simp [LB, h', h]; done) | (simp [LB, h', h]; omega))); clear hA hB A B))
      | refine WP.sr fun k hk => ?_ | refine WP.r fun k hk => ?_
      | refine WP.sd _ rfl fun k hk => ?_ | refine WP.d _ rfl fun k hk => ?_
      | (refine WP.cc fun A B hA hB => ?_; simp [LB, h', h, onB_t, onB_f]; first | (refine hA ?_; clear hA hB A B) | (refine hB ?_; clear hA hB A B) | (refine onB_if (fun h => hA ?_) (fun h => hB ?_) <;> clear hA hB A B))
      | refine WP.q ?_ | refine WP.b ?_)
    simp
  have h' : ¬ (20000 : Int) < (x.length : Int) := by omega
  have h8 : x.length ≤ 80000 := by omega
  have hstok : ∀ m ∈ (parseS x).1, okS m = true ∧ okI m = true := fun m hm => by
    have : ∃ y ∈ linesOf x, m = stOf y := by
      unfold parseS at hm
      split at hm
      · cases hm
      · split at hm
        · obtain ⟨y, hy, rfl⟩ := List.mem_map.1 hm; exact ⟨y, hy, rfl⟩
        · cases hm
    obtain ⟨y, hy, rfl⟩ := this
    have hyl : y.length ≤ x.length := by
      unfold linesOf at hy
      split at hy
      · exact splitC_mem 10 1 x y ((List.dropLast_sublist _).subset hy)
      · exact splitC_mem 10 1 x y hy
    exact told_ok fun z hz => Nat.le_trans (splitC_mem 32 0 _ z hz) (Nat.le_trans (trim_len y [10]) (by omega))
  by_cases he : (parseS x).2.2 = 0
  · obtain ⟨h1, h2, h3, h4⟩ := parse_ones x he
    have hokl : okL (parseS x).1 = true := okL_iff.2 ⟨by simp only [LIM]; omega, fun m hm => (hstok m hm).1, fun m hm => (hstok m hm).2⟩
    have t1 : (textS (parseS x).1).1 = x := by rw [h1]
    have t2 : (textS (parseS x).1).2 = 0 := by rw [h1]
    generalize hP : (parseS x).1 = l at *
    repeat' (first
      | refine WP.t ?_ | refine WP.k ?_ | refine WP.e ?_ | refine Qn ?_ | refine Qr ?_ | refine Qe ?_ | refine Bn ?_ | refine Br ?_ | refine Be ?_ | refine Bx (by decide) ?_
      | (refine RS.nl ?_; refine hk _ _ ?_; clear hk k)
      | (refine RS.st fun A B hA hB => ?_; simp [LB, LA, h', h8, he, hP, hokl, t1, t2, onW_t, onW_f, onV_s]; first | (refine hA _ _ _ ?_ ?_; (focus (first | (simp [LB, LA, h', h8, he, hP, hokl, t1, t2]; done) | (simp [LB, LA, h', h8, he, hP, hokl, t1, t2]; omega))); clear hA hB A B) | (refine hB ?_; clear hA hB A B) | (refine onV_if ?_ ?_; (focus (first | omega | (refine ⟨?_, ?_⟩ <;> omega))); simp only [onV_s]; refine hA _ _ _ ?_ ?_; (focus (first | (simp [LB, LA, h', h8, he, hP, hokl, t1, t2]; done) | (simp [LB, LA, h', h8, he, hP, hokl, t1, t2]; omega))); clear hA hB A B))
      | (refine RQ.nl ?_; refine hk _ _ ?_; clear hk k)
      | (refine RQ.st fun A B hA hB => ?_; simp [LB, LA, h', h8, he, hP, hokl, t1, t2, onW_t, onW_f, onV_s]; first | (refine hA _ _ _ ?_ (by first | exact .inl rfl | exact .inr (by decide)) ?_; (focus (first | (simp [LB, LA, h', h8, he, hP, hokl, t1, t2]; done) | (simp [LB, LA, h', h8, he, hP, hokl, t1, t2]; omega))); clear hA hB A B) | (refine hB ?_; clear hA hB A B) | (refine onV_if ?_ ?_; (focus (first | omega | (refine ⟨?_, ?_⟩ <;> omega))); simp only [onV_s]; refine hA _ _ _ ?_ (by first | exact .inl rfl | exact .inr (by decide)) ?_; (focus (first | (simp [LB, LA, h', h8, he, hP, hokl, t1, t2]; done) | (simp [LB, LA, h', h8, he, hP, hokl, t1, t2]; omega))); clear hA hB A B))
      | refine WP.sr fun k hk => ?_ | refine WP.r fun k hk => ?_
      | refine WP.sd _ rfl fun k hk => ?_ | refine WP.d _ rfl fun k hk => ?_
      | (refine WP.cc fun A B hA hB => ?_; simp [LB, LA, h', h8, he, hP, hokl, t1, t2, onB_t, onB_f]; first | (refine hA ?_; clear hA hB A B) | (refine hB ?_; clear hA hB A B) | (refine onB_if (fun h => hA ?_) (fun h => hB ?_) <;> clear hA hB A B))
      | refine WP.q ?_ | refine WP.b ?_)
    refine WP_loopS (fun i : Nat => [(0, .str x), (3, .bool true), (4, .sl (l.map Sm.cs)), (7, .str x), (8, .int .i64 0), (9, .int .i64 ((x.take i).count 10)), (10, .int .i64 i)]) (fun i s' => i ≤ x.length ∧ s' = s) (fun i => x.length - i) 0 (by simp) ⟨by omega, rfl⟩ ?_
    rintro i s1 ⟨hi, rfl⟩
    by_cases hi2 : i < x.length
    · have htk : x.take (i + 1) = x.take i ++ [x[i]] := List.take_succ_eq_append_getElem hi2
      have hw := wrap_succ hi2 hx
      have hcl : (x.take i).count 10 ≤ i := by have := List.count_le_length (a := (10 : UInt8)) (l := x.take i); rw [List.length_take] at this; omega
      have hw2 : IntKind.i64.wrap (((x.take i).count 10 : Nat) + 1) = (((x.take i).count 10 : Nat) : Int) + 1 := wrap64 (by omega) (by omega)
      generalize hv : x[i] = c at *
      generalize hq : (x.take i).count 10 = q at *
      cases hc : (c == 10)
      · skip
        repeat' (first
          | refine WP.t ?_ | refine WP.k ?_ | refine WP.e ?_ | refine Qn ?_ | refine Qr ?_ | refine Qe ?_ | refine Bn ?_ | refine Br ?_ | refine Be ?_ | refine Bx (by decide) ?_
          | (refine RS.nl ?_; refine hk _ _ ?_; clear hk k)
          | (refine RS.st fun A B hA hB => ?_; simp [hi2, hv, hw, hw2, i10, hc, onW_t, onW_f, onV_s]; first | (refine hA _ _ _ ?_ ?_; (focus (first | (simp [hi2, hv, hw, hw2, i10, hc]; done) | (simp [hi2, hv, hw, hw2, i10, hc]; omega))); clear hA hB A B) | (refine hB ?_; clear hA hB A B) | (refine onV_if ?_ ?_; (focus (first | omega | (refine ⟨?_, ?_⟩ <;> omega))); simp only [onV_s]; refine hA _ _ _ ?_ ?_; (focus (first | (simp [hi2, hv, hw, hw2, i10, hc]; done) | (simp [hi2, hv, hw, hw2, i10, hc]; omega))); clear hA hB A B))
          | (refine RQ.nl ?_; refine hk _ _ ?_; clear hk k)
          | (refine RQ.st fun A B hA hB => ?_; simp [hi2, hv, hw, hw2, i10, hc, onW_t, onW_f, onV_s]; first | (refine hA _ _ _ ?_ (by first | exact .inl rfl | exact .inr (by decide)) ?_; (focus (first | (simp [hi2, hv, hw, hw2, i10, hc]; done) | (simp [hi2, hv, hw, hw2, i10, hc]; omega))); clear hA hB A B) | (refine hB ?_; clear hA hB A B) | (refine onV_if ?_ ?_; (focus (first | omega | (refine ⟨?_, ?_⟩ <;> omega))); simp only [onV_s]; refine hA _ _ _ ?_ (by first | exact .inl rfl | exact .inr (by decide)) ?_; (focus (first | (simp [hi2, hv, hw, hw2, i10, hc]; done) | (simp [hi2, hv, hw, hw2, i10, hc]; omega))); clear hA hB A B))
          | refine WP.sr fun k hk => ?_ | refine WP.r fun k hk => ?_
          | refine WP.sd _ rfl fun k hk => ?_ | refine WP.d _ rfl fun k hk => ?_
          | (refine WP.cc fun A B hA hB => ?_; simp [hi2, hv, hw, hw2, i10, hc, onB_t, onB_f]; first | (refine hA ?_; clear hA hB A B) | (refine hB ?_; clear hA hB A B) | (refine onB_if (fun h => hA ?_) (fun h => hB ?_) <;> clear hA hB A B))
          | refine WP.q ?_ | refine WP.b ?_)
        refine ⟨i + 1, by omega, ?_, by omega, rfl⟩
        have : c ≠ 10 := by simpa using hc
        simp [htk, hq, List.count_singleton, this]
      · skip
        repeat' (first
          | refine WP.t ?_ | refine WP.k ?_ | refine WP.e ?_ | refine Qn ?_ | refine Qr ?_ | refine Qe ?_ | refine Bn ?_ | refine Br ?_ | refine Be ?_ | refine Bx (by decide) ?_
          | (refine RS.nl ?_; refine hk _ _ ?_; clear hk k)
          | (refine RS.st fun A B hA hB => ?_; simp [hi2, hv, hw, hw2, i10, hc, onW_t, onW_f, onV_s]; first | (refine hA _ _ _ ?_ ?_; (focus (first | (simp [hi2, hv, hw, hw2, i10, hc]; done) | (simp [hi2, hv, hw, hw2, i10, hc]; omega))); clear hA hB A B) | (refine hB ?_; clear hA hB A B) | (refine onV_if ?_ ?_; (focus (first | omega | (refine ⟨?_, ?_⟩ <;> omega))); simp only [onV_s]; refine hA _ _ _ ?_ ?_; (focus (first | (simp [hi2, hv, hw, hw2, i10, hc]; done) | (simp [hi2, hv, hw, hw2, i10, hc]; omega))); clear hA hB A B))
          | (refine RQ.nl ?_; refine hk _ _ ?_; clear hk k)
          | (refine RQ.st fun A B hA hB => ?_; simp [hi2, hv, hw, hw2, i10, hc, onW_t, onW_f, onV_s]; first | (refine hA _ _ _ ?_ (by first | exact .inl rfl | exact .inr (by decide)) ?_; (focus (first | (simp [hi2, hv, hw, hw2, i10, hc]; done) | (simp [hi2, hv, hw, hw2, i10, hc]; omega))); clear hA hB A B) | (refine hB ?_; clear hA hB A B) | (refine onV_if ?_ ?_; (focus (first | omega | (refine ⟨?_, ?_⟩ <;> omega))); simp only [onV_s]; refine hA _ _ _ ?_ (by first | exact .inl rfl | exact .inr (by decide)) ?_; (focus (first | (simp [hi2, hv, hw, hw2, i10, hc]; done) | (simp [hi2, hv, hw, hw2, i10, hc]; omega))); clear hA hB A B))
          | refine WP.sr fun k hk => ?_ | refine WP.r fun k hk => ?_
          | refine WP.sd _ rfl fun k hk => ?_ | refine WP.d _ rfl fun k hk => ?_
          | (refine WP.cc fun A B hA hB => ?_; simp [hi2, hv, hw, hw2, i10, hc, onB_t, onB_f]; first | (refine hA ?_; clear hA hB A B) | (refine hB ?_; clear hA hB A B) | (refine onB_if (fun h => hA ?_) (fun h => hB ?_) <;> clear hA hB A B))
          | refine WP.q ?_ | refine WP.b ?_)
        refine ⟨i + 1, by omega, ?_, by omega, rfl⟩
        have : c = 10 := by simpa using hc
        simp [htk, hq, this]
    · have hfull : x.take i = x := List.take_of_length_le (by omega)
      rw [hfull, h2]
      repeat' (first
        | refine WP.t ?_ | refine WP.k ?_ | refine WP.e ?_ | refine Qn ?_ | refine Qr ?_ | refine Qe ?_ | refine Bn ?_ | refine Br ?_ | refine Be ?_ | refine Bx (by decide) ?_
        | (refine RS.nl ?_; refine hk _ _ ?_; clear hk k)
        | (refine RS.st fun A B hA hB => ?_; simp [hi2, onW_t, onW_f, onV_s]; first | (refine hA _ _ _ ?_ ?_; (focus (first | (simp [hi2]; done) | (simp [hi2]; omega))); clear hA hB A B) | (refine hB ?_; clear hA hB A B) | (refine onV_if ?_ ?_; (focus (first | omega | (refine ⟨?_, ?_⟩ <;> omega))); simp only [onV_s]; refine hA _ _ _ ?_ ?_; (focus (first | (simp [hi2]; done) | (simp [hi2]; omega))); clear hA hB A B))
        | (refine RQ.nl ?_; refine hk _ _ ?_; clear hk k)
        | (refine RQ.st fun A B hA hB => ?_; simp [hi2, onW_t, onW_f, onV_s]; first | (refine hA _ _ _ ?_ (by first | exact .inl rfl | exact .inr (by decide)) ?_; (focus (first | (simp [hi2]; done) | (simp [hi2]; omega))); clear hA hB A B) | (refine hB ?_; clear hA hB A B) | (refine onV_if ?_ ?_; (focus (first | omega | (refine ⟨?_, ?_⟩ <;> omega))); simp only [onV_s]; refine hA _ _ _ ?_ (by first | exact .inl rfl | exact .inr (by decide)) ?_; (focus (first | (simp [hi2]; done) | (simp [hi2]; omega))); clear hA hB A B))
        | refine WP.sr fun k hk => ?_ | refine WP.r fun k hk => ?_
        | refine WP.sd _ rfl fun k hk => ?_ | refine WP.d _ rfl fun k hk => ?_
        | (refine WP.cc fun A B hA hB => ?_; simp [hi2, onB_t, onB_f]; first | (refine hA ?_; clear hA hB A B) | (refine hB ?_; clear hA hB A B) | (refine onB_if (fun h => hA ?_) (fun h => hB ?_) <;> clear hA hB A B))
        | refine WP.q ?_ | refine WP.b ?_)
      refine WP_loopS (fun j : Nat => [(0, .str x), (3, .bool true), (4, .sl (l.map Sm.cs)), (7, .str x), (8, .int .i64 0), (9, .int .i64 l.length), (11, .int .i64 j)]) (fun j s2 => j ≤ l.length ∧ s2 = s1) (fun j => l.length - j) 0 (by simp) ⟨by omega, rfl⟩ ?_
      rintro j _ ⟨hj, rfl⟩
      by_cases hj2 : j < l.length
      · have ha : l[j]? = some l[j] := List.getElem?_eq_getElem hj2
        have hm := (hstok l[j] (List.getElem_mem hj2)).1
        have hmay := h3 l[j] (List.getElem_mem hj2)
        have hw := wrap_succ hj2 (show l.length < LIM by simp only [LIM]; omega)
        generalize hv : l[j] = m at *
        have hcs : m.cs = [.int .i64 m.k, .str m.x, .str m.y, .str m.z, .str m.o, .int .i64 m.n, .int .i64 m.a, .int .i64 m.b] := rfl
        have heta : Sm.mk m.k m.x m.y m.z m.o m.n m.a m.b = m := rfl
        repeat' (first
          | refine WP.t ?_ | refine WP.k ?_ | refine WP.e ?_ | refine Qn ?_ | refine Qr ?_ | refine Qe ?_ | refine Bn ?_ | refine Br ?_ | refine Be ?_ | refine Bx (by decide) ?_
          | (refine RS.nl ?_; refine hk _ _ ?_; clear hk k)
          | (refine RS.st fun A B hA hB => ?_; simp [LB, LA, FK, FJ, FI, FH, FG, hj2, ha, hv, hm, hcs, heta, hmay, hw, onW_t, onW_f, onV_s]; first | (refine hA _ _ _ ?_ ?_; (focus (first | (simp [LB, LA, FK, FJ, FI, FH, FG, hj2, ha, hv, hm, hcs, heta, hmay, hw]; done) | (simp [LB, LA, FK, FJ, FI, FH, FG, hj2, ha, hv, hm, hcs, heta, hmay, hw]; omega))); clear hA hB A B) | (refine hB ?_; clear hA hB A B) | (refine onV_if ?_ ?_; (focus (first | omega | (refine ⟨?_, ?_⟩ <;> omega))); simp only [onV_s]; refine hA _ _ _ ?_ ?_; (focus (first | (simp [LB, LA, FK, FJ, FI, FH, FG, hj2, ha, hv, hm, hcs, heta, hmay, hw]; done) | (simp [LB, LA, FK, FJ, FI, FH, FG, hj2, ha, hv, hm, hcs, heta, hmay, hw]; omega))); clear hA hB A B))
          | (refine RQ.nl ?_; refine hk _ _ ?_; clear hk k)
          | (refine RQ.st fun A B hA hB => ?_; simp [LB, LA, FK, FJ, FI, FH, FG, hj2, ha, hv, hm, hcs, heta, hmay, hw, onW_t, onW_f, onV_s]; first | (refine hA _ _ _ ?_ (by first | exact .inl rfl | exact .inr (by decide)) ?_; (focus (first | (simp [LB, LA, FK, FJ, FI, FH, FG, hj2, ha, hv, hm, hcs, heta, hmay, hw]; done) | (simp [LB, LA, FK, FJ, FI, FH, FG, hj2, ha, hv, hm, hcs, heta, hmay, hw]; omega))); clear hA hB A B) | (refine hB ?_; clear hA hB A B) | (refine onV_if ?_ ?_; (focus (first | omega | (refine ⟨?_, ?_⟩ <;> omega))); simp only [onV_s]; refine hA _ _ _ ?_ (by first | exact .inl rfl | exact .inr (by decide)) ?_; (focus (first | (simp [LB, LA, FK, FJ, FI, FH, FG, hj2, ha, hv, hm, hcs, heta, hmay, hw]; done) | (simp [LB, LA, FK, FJ, FI, FH, FG, hj2, ha, hv, hm, hcs, heta, hmay, hw]; omega))); clear hA hB A B))
          | refine WP.sr fun k hk => ?_ | refine WP.r fun k hk => ?_
          | refine WP.sd _ rfl fun k hk => ?_ | refine WP.d _ rfl fun k hk => ?_
          | (refine WP.cc fun A B hA hB => ?_; simp [LB, LA, FK, FJ, FI, FH, FG, hj2, ha, hv, hm, hcs, heta, hmay, hw, onB_t, onB_f]; first | (refine hA ?_; clear hA hB A B) | (refine hB ?_; clear hA hB A B) | (refine onB_if (fun h => hA ?_) (fun h => hB ?_) <;> clear hA hB A B))
          | refine WP.q ?_ | refine WP.b ?_)
        exact ⟨j + 1, by omega, by simp, by omega, rfl⟩
      · skip
        repeat' (first
          | refine WP.t ?_ | refine WP.k ?_ | refine WP.e ?_ | refine Qn ?_ | refine Qr ?_ | refine Qe ?_ | refine Bn ?_ | refine Br ?_ | refine Be ?_ | refine Bx (by decide) ?_
          | (refine RS.nl ?_; refine hk _ _ ?_; clear hk k)
          | (refine RS.st fun A B hA hB => ?_; simp [hj2, onW_t, onW_f, onV_s]; first | (refine hA _ _ _ ?_ ?_; (focus (first | (simp [hj2]; done) | (simp [hj2]; omega))); clear hA hB A B) | (refine hB ?_; clear hA hB A B) | (refine onV_if ?_ ?_; (focus (first | omega | (refine ⟨?_, ?_⟩ <;> omega))); simp only [onV_s]; refine hA _ _ _ ?_ ?_; (focus (first | (simp [hj2]; done) | (simp [hj2]; omega))); clear hA hB A B))
          | (refine RQ.nl ?_; refine hk _ _ ?_; clear hk k)
          | (refine RQ.st fun A B hA hB => ?_; simp [hj2, onW_t, onW_f, onV_s]; first | (refine hA _ _ _ ?_ (by first | exact .inl rfl | exact .inr (by decide)) ?_; (focus (first | (simp [hj2]; done) | (simp [hj2]; omega))); clear hA hB A B) | (refine hB ?_; clear hA hB A B) | (refine onV_if ?_ ?_; (focus (first | omega | (refine ⟨?_, ?_⟩ <;> omega))); simp only [onV_s]; refine hA _ _ _ ?_ (by first | exact .inl rfl | exact .inr (by decide)) ?_; (focus (first | (simp [hj2]; done) | (simp [hj2]; omega))); clear hA hB A B))
          | refine WP.sr fun k hk => ?_ | refine WP.r fun k hk => ?_
          | refine WP.sd _ rfl fun k hk => ?_ | refine WP.d _ rfl fun k hk => ?_
          | (refine WP.cc fun A B hA hB => ?_; simp [hj2, onB_t, onB_f]; first | (refine hA ?_; clear hA hB A B) | (refine hB ?_; clear hA hB A B) | (refine onB_if (fun h => hA ?_) (fun h => hB ?_) <;> clear hA hB A B))
          | refine WP.q ?_ | refine WP.b ?_)
        simp
  · obtain ⟨h1, h2, h3⟩ := parse_not x he
    have q : ((parseS x).2.2 != 0) = true := by simpa using he
    repeat' (first
      | refine WP.t ?_ | refine WP.k ?_ | refine WP.e ?_ | refine Qn ?_ | refine Qr ?_ | refine Qe ?_ | refine Bn ?_ | refine Br ?_ | refine Be ?_ | refine Bx (by decide) ?_
      | (refine RS.nl ?_; refine hk _ _ ?_; clear hk k)
      | (refine RS.st fun A B hA hB => ?_; simp [LB, LA, h', h8, h1, h2, h3, q, he, onW_t, onW_f, onV_s]; first | (refine hA _ _ _ ?_ ?_; (focus (first | (simp [LB, LA, h', h8, h1, h2, h3, q, he]; done) | (simp [LB, LA, h', h8, h1, h2, h3, q, he]; omega))); clear hA hB A B) | (refine hB ?_; clear hA hB A B) | (refine onV_if ?_ ?_; (focus (first | omega | (refine ⟨?_, ?_⟩ <;> omega))); simp only [onV_s]; refine hA _ _ _ ?_ ?_; (focus (first | (simp [LB, LA, h', h8, h1, h2, h3, q, he]; done) | (simp [LB, LA, h', h8, h1, h2, h3, q, he]; omega))); clear hA hB A B))
      | (refine RQ.nl ?_; refine hk _ _ ?_; clear hk k)
      | (refine RQ.st fun A B hA hB => ?_; simp [LB, LA, h', h8, h1, h2, h3, q, he, onW_t, onW_f, onV_s]; first | (refine hA _ _ _ ?_ (by first | exact .inl rfl | exact .inr (by decide)) ?_; (focus (first | (simp [LB, LA, h', h8, h1, h2, h3, q, he]; done) | (simp [LB, LA, h', h8, h1, h2, h3, q, he]; omega))); clear hA hB A B) | (refine hB ?_; clear hA hB A B) | (refine onV_if ?_ ?_; (focus (first | omega | (refine ⟨?_, ?_⟩ <;> omega))); simp only [onV_s]; refine hA _ _ _ ?_ (by first | exact .inl rfl | exact .inr (by decide)) ?_; (focus (first | (simp [LB, LA, h', h8, h1, h2, h3, q, he]; done) | (simp [LB, LA, h', h8, h1, h2, h3, q, he]; omega))); clear hA hB A B))
      | refine WP.sr fun k hk => ?_ | refine WP.r fun k hk => ?_
      | refine WP.sd _ rfl fun k hk => ?_ | refine WP.d _ rfl fun k hk => ?_
      | (refine WP.cc fun A B hA hB => ?_; simp [LB, LA, h', h8, h1, h2, h3, q, he, onB_t, onB_f]; first | (refine hA ?_; clear hA hB A B) | (refine hB ?_; clear hA hB A B) | (refine onB_if (fun h => hA ?_) (fun h => hB ?_) <;> clear hA hB A B))
      | refine WP.q ?_ | refine WP.b ?_)
    simp
set_option maxHeartbeats 8000000 in
theorem ft_IrLeads (hG : GW K gw) (l : List Sm) (hl : OkL l) : FT (env K gw) NoW 5 [.sl (l.map Sm.cs)] s (.bool true) s := by
  refine FT.pure (fn := Tryd.f5) (LB_ok hG) mixed Tryd.func5 (by kernel_rfl) (by rfl) rfl rfl (by simp) rfl fun μ w => ?_
  have hok := okL_iff.2 hl
  by_cases h300 : 300 < l.length
  · have h' : (300 : Int) < (l.length : Int) := by omega
    repeat' (first
      | refine WP.t ?_ | refine WP.k ?_ | refine WP.e ?_ | refine Qn ?_ | refine Qr ?_ | refine Qe ?_ | refine Bn ?_ | refine Br ?_ | refine Be ?_ | refine Bx (by decide) ?_
      | (refine RS.nl ?_; refine hk _ _ ?_; clear hk k)
      | (refine RS.st fun A B hA hB => ?_; simp [LB, h', h300, onW_t, onW_f, onV_s]; first | (refine hA _ _ _ ?_ ?_; (focus (first | (simp [LB, h', h300]; done) | (simp [LB, h', h300]; omega))); clear hA hB A B) | (refine hB ?_; clear hA hB A B) | (refine onV_if ?_ ?_; (focus (first | omega | (refine ⟨?_, ?_⟩ <;> omega))); simp only [onV_s]; refine hA _ _ _ ?_ ?_; (focus (first | (simp [LB, h', h300]; done) | (simp [LB, h', h300]; omega))); clear hA hB A B))
      | (refine RQ.nl ?_; refine hk _ _ ?_; clear hk k)
      | (refine RQ.st fun A B hA hB => ?_; simp [LB, h', h300, onW_t, onW_f, onV_s]; first | (refine hA _ _ _ ?_ (by first | exact .inl rfl | exact .inr (by decide)) ?_; (focus (first | (simp [LB, h', h300]; done) | (simp [LB, h', h300]; omega))); clear hA hB A B) | (refine hB ?_; clear hA hB A B) | (refine onV_if ?_ ?_; (focus (first | omega | (refine ⟨?_, ?_⟩ <;> omega))); simp only [onV_s]; refine hA _ _ _ ?_ (by first | exact .inl rfl | exact .inr (by decide)) ?_; (focus (first | (simp [LB, h', h300]; done) | (simp [LB, h', h300]; omega))); clear hA hB A B))
      | refine WP.sr fun k hk => ?_ | refine WP.r fun k hk => ?_
      | refine WP.sd _ rfl fun k hk => ?_ | refine WP.d _ rfl fun k hk => ?_
      | (refine WP.cc fun A B hA hB => ?_; simp [LB, h', h300, onB_t, onB_f]; first | (refine hA ?_; clear hA hB A B) | (refine hB ?_; clear hA hB A B) | (refine onB_if (fun h => hA ?_) (fun h => hB ?_) <;> clear hA hB A B))
      | refine WP.q ?_ | refine WP.b ?_)
    simp
  have h' : ¬ (300 : Int) < (l.length : Int) := by omega
  repeat' (first
    | refine WP.t ?_ | refine WP.k ?_ | refine WP.e ?_ | refine Qn ?_ | refine Qr ?_ | refine Qe ?_ | refine Bn ?_ | refine Br ?_ | refine Be ?_ | refine Bx (by decide) ?_
    | (refine RS.nl ?_; refine hk _ _ ?_; clear hk k)
    | (refine RS.st fun A B hA hB => ?_; simp [LB, LA, h', h300, hok, onW_t, onW_f, onV_s]; first | (refine hA _ _ _ ?_ ?_; (focus (first | (simp [LB, LA, h', h300, hok]; done) | (simp [LB, LA, h', h300, hok]; omega))); clear hA hB A B) | (refine hB ?_; clear hA hB A B) | (refine onV_if ?_ ?_; (focus (first | omega | (refine ⟨?_, ?_⟩ <;> omega))); simp only [onV_s]; refine hA _ _ _ ?_ ?_; (focus (first | (simp [LB, LA, h', h300, hok]; done) | (simp [LB, LA, h', h300, hok]; omega))); clear hA hB A B))
    | (refine RQ.nl ?_; refine hk _ _ ?_; clear hk k)
    | (refine RQ.st fun A B hA hB => ?_; simp [LB, LA, h', h300, hok, onW_t, onW_f, onV_s]; first | (refine hA _ _ _ ?_ (by first | exact .inl rfl | exact .inr (by decide)) ?_; (focus (first | (simp [LB, LA, h', h300, hok]; done) | (simp [LB, LA, h', h300, hok]; omega))); clear hA hB A B) | (refine hB ?_; clear hA hB A B) | (refine onV_if ?_ ?_; (focus (first | omega | (refine ⟨?_, ?_⟩ <;> omega))); simp only [onV_s]; refine hA _ _ _ ?_ (by first | exact .inl rfl | exact .inr (by decide)) ?_; (focus (first | (simp [LB, LA, h', h300, hok]; done) | (simp [LB, LA, h', h300, hok]; omega))); clear hA hB A B))
    | refine WP.sr fun k hk => ?_ | refine WP.r fun k hk => ?_
    | refine WP.sd _ rfl fun k hk => ?_ | refine WP.d _ rfl fun k hk => ?_
    | (refine WP.cc fun A B hA hB => ?_; simp [LB, LA, h', h300, hok, onB_t, onB_f]; first | (refine hA ?_; clear hA hB A B) | (refine hB ?_; clear hA hB A B) | (refine onB_if (fun h => hA ?_) (fun h => hB ?_) <;> clear hA hB A B))
    | refine WP.q ?_ | refine WP.b ?_)
  refine WP_loopS (fun a : Nat × Bool => [(0, .sl (l.map Sm.cs)), (3, .bool true), (4, .bool a.2), (5, .int .i64 a.1)]) (fun a s' => a.1 ≤ l.length ∧ s' = s ∧ (l.take a.1).all mayB = true ∧ fineB l.length 0 l = (a.2 && fineB l.length a.1 (l.drop a.1))) (fun a => l.length - a.1) (0, true) (by simp) ⟨by simp, rfl, by simp, by simp⟩ ?_
  rintro ⟨i, fine⟩ _ ⟨hi, rfl, hall, hf⟩
  simp only at hi hall hf
  by_cases hi2 : i < l.length
  · have ha : l[i]? = some l[i] := List.getElem?_eq_getElem hi2
    have hm := hl.s l[i] (List.getElem_mem hi2)
    have hmem := List.getElem_mem hi2
    have hw := wrap_succ hi2 hl.len
    have htk : l.take (i + 1) = l.take i ++ [l[i]] := List.take_succ_eq_append_getElem hi2
    rw [List.drop_eq_getElem_cons hi2] at hf
    simp only [fineB] at hf
    generalize hv : l[i] = m at *
    obtain ⟨k, x, y, z, o, n, a, b⟩ := m
    cases hmay : mayB ⟨k, x, y, z, o, n, a, b⟩
    · have hb := chk_bad l l.length 0 ⟨_, hmem, hmay⟩
      have q : ((chk l.length 0 l).2 != 0) = true := by simpa using hb
      repeat' (first
        | refine WP.t ?_ | refine WP.k ?_ | refine WP.e ?_ | refine Qn ?_ | refine Qr ?_ | refine Qe ?_ | refine Bn ?_ | refine Br ?_ | refine Be ?_ | refine Bx (by decide) ?_
        | (refine RS.nl ?_; refine hk _ _ ?_; clear hk k)
        | (refine RS.st fun A B hA hB => ?_; simp [LB, LA, FK, FJ, FI, FH, FG, hi2, ha, hv, hm, Sm.cs, hmay, hok, q, onW_t, onW_f, onV_s]; first | (refine hA _ _ _ ?_ ?_; (focus (first | (simp [LB, LA, FK, FJ, FI, FH, FG, hi2, ha, hv, hm, Sm.cs, hmay, hok, q]; done) | (simp [LB, LA, FK, FJ, FI, FH, FG, hi2, ha, hv, hm, Sm.cs, hmay, hok, q]; omega))); clear hA hB A B) | (refine hB ?_; clear hA hB A B) | (refine onV_if ?_ ?_; (focus (first | omega | (refine ⟨?_, ?_⟩ <;> omega))); simp only [onV_s]; refine hA _ _ _ ?_ ?_; (focus (first | (simp [LB, LA, FK, FJ, FI, FH, FG, hi2, ha, hv, hm, Sm.cs, hmay, hok, q]; done) | (simp [LB, LA, FK, FJ, FI, FH, FG, hi2, ha, hv, hm, Sm.cs, hmay, hok, q]; omega))); clear hA hB A B))
        | (refine RQ.nl ?_; refine hk _ _ ?_; clear hk k)
        | (refine RQ.st fun A B hA hB => ?_; simp [LB, LA, FK, FJ, FI, FH, FG, hi2, ha, hv, hm, Sm.cs, hmay, hok, q, onW_t, onW_f, onV_s]; first | (refine hA _ _ _ ?_ (by first | exact .inl rfl | exact .inr (by decide)) ?_; (focus (first | (simp [LB, LA, FK, FJ, FI, FH, FG, hi2, ha, hv, hm, Sm.cs, hmay, hok, q]; done) | (simp [LB, LA, FK, FJ, FI, FH, FG, hi2, ha, hv, hm, Sm.cs, hmay, hok, q]; omega))); clear hA hB A B) | (refine hB ?_; clear hA hB A B) | (refine onV_if ?_ ?_; (focus (first | omega | (refine ⟨?_, ?_⟩ <;> omega))); simp only [onV_s]; refine hA _ _ _ ?_ (by first | exact .inl rfl | exact .inr (by decide)) ?_; (focus (first | (simp [LB, LA, FK, FJ, FI, FH, FG, hi2, ha, hv, hm, Sm.cs, hmay, hok, q]; done) | (simp [LB, LA, FK, FJ, FI, FH, FG, hi2, ha, hv, hm, Sm.cs, hmay, hok, q]; omega))); clear hA hB A B))
        | refine WP.sr fun k hk => ?_ | refine WP.r fun k hk => ?_
        | refine WP.sd _ rfl fun k hk => ?_ | refine WP.d _ rfl fun k hk => ?_
        | (refine WP.cc fun A B hA hB => ?_; simp [LB, LA, FK, FJ, FI, FH, FG, hi2, ha, hv, hm, Sm.cs, hmay, hok, q, onB_t, onB_f]; first | (refine hA ?_; clear hA hB A B) | (refine hB ?_; clear hA hB A B) | (refine onB_if (fun h => hA ?_) (fun h => hB ?_) <;> clear hA hB A B))
        | refine WP.q ?_ | refine WP.b ?_)
      simp [q, hb]
    · have hall2 : (l.take (i + 1)).all mayB = true := by rw [htk, List.all_append, hall]; simp [hmay]
      cases fine
      · by_cases h7 : k = 7
        · subst h7
          repeat' (first
            | refine WP.t ?_ | refine WP.k ?_ | refine WP.e ?_ | refine Qn ?_ | refine Qr ?_ | refine Qe ?_ | refine Bn ?_ | refine Br ?_ | refine Be ?_ | refine Bx (by decide) ?_
            | (refine RS.nl ?_; refine hk _ _ ?_; clear hk k)
            | (refine RS.st fun A B hA hB => ?_; simp [LB, LA, FK, FJ, FI, FH, FG, hi2, ha, hv, hm, Sm.cs, hmay, hw, onW_t, onW_f, onV_s]; first | (refine hA _ _ _ ?_ ?_; (focus (first | (simp [LB, LA, FK, FJ, FI, FH, FG, hi2, ha, hv, hm, Sm.cs, hmay, hw]; done) | (simp [LB, LA, FK, FJ, FI, FH, FG, hi2, ha, hv, hm, Sm.cs, hmay, hw]; omega))); clear hA hB A B) | (refine hB ?_; clear hA hB A B) | (refine onV_if ?_ ?_; (focus (first | omega | (refine ⟨?_, ?_⟩ <;> omega))); simp only [onV_s]; refine hA _ _ _ ?_ ?_; (focus (first | (simp [LB, LA, FK, FJ, FI, FH, FG, hi2, ha, hv, hm, Sm.cs, hmay, hw]; done) | (simp [LB, LA, FK, FJ, FI, FH, FG, hi2, ha, hv, hm, Sm.cs, hmay, hw]; omega))); clear hA hB A B))
            | (refine RQ.nl ?_; refine hk _ _ ?_; clear hk k)
            | (refine RQ.st fun A B hA hB => ?_; simp [LB, LA, FK, FJ, FI, FH, FG, hi2, ha, hv, hm, Sm.cs, hmay, hw, onW_t, onW_f, onV_s]; first | (refine hA _ _ _ ?_ (by first | exact .inl rfl | exact .inr (by decide)) ?_; (focus (first | (simp [LB, LA, FK, FJ, FI, FH, FG, hi2, ha, hv, hm, Sm.cs, hmay, hw]; done) | (simp [LB, LA, FK, FJ, FI, FH, FG, hi2, ha, hv, hm, Sm.cs, hmay, hw]; omega))); clear hA hB A B) | (refine hB ?_; clear hA hB A B) | (refine onV_if ?_ ?_; (focus (first | omega | (refine ⟨?_, ?_⟩ <;> omega))); simp only [onV_s]; refine hA _ _ _ ?_ (by first | exact .inl rfl | exact .inr (by decide)) ?_; (focus (first | (simp [LB, LA, FK, FJ, FI, FH, FG, hi2, ha, hv, hm, Sm.cs, hmay, hw]; done) | (simp [LB, LA, FK, FJ, FI, FH, FG, hi2, ha, hv, hm, Sm.cs, hmay, hw]; omega))); clear hA hB A B))
            | refine WP.sr fun k hk => ?_ | refine WP.r fun k hk => ?_
            | refine WP.sd _ rfl fun k hk => ?_ | refine WP.d _ rfl fun k hk => ?_
            | (refine WP.cc fun A B hA hB => ?_; simp [LB, LA, FK, FJ, FI, FH, FG, hi2, ha, hv, hm, Sm.cs, hmay, hw, onB_t, onB_f]; first | (refine hA ?_; clear hA hB A B) | (refine hB ?_; clear hA hB A B) | (refine onB_if (fun h => hA ?_) (fun h => hB ?_) <;> clear hA hB A B))
            | refine WP.q ?_ | refine WP.b ?_)
          exact ⟨(i + 1, false), by simp; omega, by simp, by simp; omega, rfl, hall2, by rw [hf]; rfl⟩
        have q7 : (k == 7) = false := by simpa using h7
        have n7 : (k != 7) = true := by simpa using h7
        by_cases h8 : k = 8
        · subst h8
          repeat' (first
            | refine WP.t ?_ | refine WP.k ?_ | refine WP.e ?_ | refine Qn ?_ | refine Qr ?_ | refine Qe ?_ | refine Bn ?_ | refine Br ?_ | refine Be ?_ | refine Bx (by decide) ?_
            | (refine RS.nl ?_; refine hk _ _ ?_; clear hk k)
            | (refine RS.st fun A B hA hB => ?_; simp [LB, LA, FK, FJ, FI, FH, FG, hi2, ha, hv, hm, Sm.cs, hmay, hw, onW_t, onW_f, onV_s]; first | (refine hA _ _ _ ?_ ?_; (focus (first | (simp [LB, LA, FK, FJ, FI, FH, FG, hi2, ha, hv, hm, Sm.cs, hmay, hw]; done) | (simp [LB, LA, FK, FJ, FI, FH, FG, hi2, ha, hv, hm, Sm.cs, hmay, hw]; omega))); clear hA hB A B) | (refine hB ?_; clear hA hB A B) | (refine onV_if ?_ ?_; (focus (first | omega | (refine ⟨?_, ?_⟩ <;> omega))); simp only [onV_s]; refine hA _ _ _ ?_ ?_; (focus (first | (simp [LB, LA, FK, FJ, FI, FH, FG, hi2, ha, hv, hm, Sm.cs, hmay, hw]; done) | (simp [LB, LA, FK, FJ, FI, FH, FG, hi2, ha, hv, hm, Sm.cs, hmay, hw]; omega))); clear hA hB A B))
            | (refine RQ.nl ?_; refine hk _ _ ?_; clear hk k)
            | (refine RQ.st fun A B hA hB => ?_; simp [LB, LA, FK, FJ, FI, FH, FG, hi2, ha, hv, hm, Sm.cs, hmay, hw, onW_t, onW_f, onV_s]; first | (refine hA _ _ _ ?_ (by first | exact .inl rfl | exact .inr (by decide)) ?_; (focus (first | (simp [LB, LA, FK, FJ, FI, FH, FG, hi2, ha, hv, hm, Sm.cs, hmay, hw]; done) | (simp [LB, LA, FK, FJ, FI, FH, FG, hi2, ha, hv, hm, Sm.cs, hmay, hw]; omega))); clear hA hB A B) | (refine hB ?_; clear hA hB A B) | (refine onV_if ?_ ?_; (focus (first | omega | (refine ⟨?_, ?_⟩ <;> omega))); simp only [onV_s]; refine hA _ _ _ ?_ (by first | exact .inl rfl | exact .inr (by decide)) ?_; (focus (first | (simp [LB, LA, FK, FJ, FI, FH, FG, hi2, ha, hv, hm, Sm.cs, hmay, hw]; done) | (simp [LB, LA, FK, FJ, FI, FH, FG, hi2, ha, hv, hm, Sm.cs, hmay, hw]; omega))); clear hA hB A B))
            | refine WP.sr fun k hk => ?_ | refine WP.r fun k hk => ?_
            | refine WP.sd _ rfl fun k hk => ?_ | refine WP.d _ rfl fun k hk => ?_
            | (refine WP.cc fun A B hA hB => ?_; simp [LB, LA, FK, FJ, FI, FH, FG, hi2, ha, hv, hm, Sm.cs, hmay, hw, onB_t, onB_f]; first | (refine hA ?_; clear hA hB A B) | (refine hB ?_; clear hA hB A B) | (refine onB_if (fun h => hA ?_) (fun h => hB ?_) <;> clear hA hB A B))
            | refine WP.q ?_ | refine WP.b ?_)
          exact ⟨(i + 1, false), by simp; omega, by simp, by simp; omega, rfl, hall2, by rw [hf]; rfl⟩
        have q8 : (k == 8) = false := by simpa using h8
        have n8 : (k != 8) = true := by simpa using h8
        by_cases h9 : k = 9
        · subst h9
          repeat' (first
            | refine WP.t ?_ | refine WP.k ?_ | refine WP.e ?_ | refine Qn ?_ | refine Qr ?_ | refine Qe ?_ | refine Bn ?_ | refine Br ?_ | refine Be ?_ | refine Bx (by decide) ?_
            | (refine RS.nl ?_; refine hk _ _ ?_; clear hk k)
            | (refine RS.st fun A B hA hB => ?_; simp [LB, LA, FK, FJ, FI, FH, FG, hi2, ha, hv, hm, Sm.cs, hmay, hw, onW_t, onW_f, onV_s]; first | (refine hA _ _ _ ?_ ?_; (focus (first | (simp [LB, LA, FK, FJ, FI, FH, FG, hi2, ha, hv, hm, Sm.cs, hmay, hw]; done) | (simp [LB, LA, FK, FJ, FI, FH, FG, hi2, ha, hv, hm, Sm.cs, hmay, hw]; omega))); clear hA hB A B) | (refine hB ?_; clear hA hB A B) | (refine onV_if ?_ ?_; (focus (first | omega | (refine ⟨?_, ?_⟩ <;> omega))); simp only [onV_s]; refine hA _ _ _ ?_ ?_; (focus (first | (simp [LB, LA, FK, FJ, FI, FH, FG, hi2, ha, hv, hm, Sm.cs, hmay, hw]; done) | (simp [LB, LA, FK, FJ, FI, FH, FG, hi2, ha, hv, hm, Sm.cs, hmay, hw]; omega))); clear hA hB A B))
            | (refine RQ.nl ?_; refine hk _ _ ?_; clear hk k)
            | (refine RQ.st fun A B hA hB => ?_; simp [LB, LA, FK, FJ, FI, FH, FG, hi2, ha, hv, hm, Sm.cs, hmay, hw, onW_t, onW_f, onV_s]; first | (refine hA _ _ _ ?_ (by first | exact .inl rfl | exact .inr (by decide)) ?_; (focus (first | (simp [LB, LA, FK, FJ, FI, FH, FG, hi2, ha, hv, hm, Sm.cs, hmay, hw]; done) | (simp [LB, LA, FK, FJ, FI, FH, FG, hi2, ha, hv, hm, Sm.cs, hmay, hw]; omega))); clear hA hB A B) | (refine hB ?_; clear hA hB A B) | (refine onV_if ?_ ?_; (focus (first | omega | (refine ⟨?_, ?_⟩ <;> omega))); simp only [onV_s]; refine hA _ _ _ ?_ (by first | exact .inl rfl | exact .inr (by decide)) ?_; (focus (first | (simp [LB, LA, FK, FJ, FI, FH, FG, hi2, ha, hv, hm, Sm.cs, hmay, hw]; done) | (simp [LB, LA, FK, FJ, FI, FH, FG, hi2, ha, hv, hm, Sm.cs, hmay, hw]; omega))); clear hA hB A B))
            | refine WP.sr fun k hk => ?_ | refine WP.r fun k hk => ?_
            | refine WP.sd _ rfl fun k hk => ?_ | refine WP.d _ rfl fun k hk => ?_
            | (refine WP.cc fun A B hA hB => ?_; simp [LB, LA, FK, FJ, FI, FH, FG, hi2, ha, hv, hm, Sm.cs, hmay, hw, onB_t, onB_f]; first | (refine hA ?_; clear hA hB A B) | (refine hB ?_; clear hA hB A B) | (refine onB_if (fun h => hA ?_) (fun h => hB ?_) <;> clear hA hB A B))
            | refine WP.q ?_ | refine WP.b ?_)
          exact ⟨(i + 1, false), by simp; omega, by simp, by simp; omega, rfl, hall2, by rw [hf]; rfl⟩
        have q9 : (k == 9) = false := by simpa using h9
        repeat' (first
          | refine WP.t ?_ | refine WP.k ?_ | refine WP.e ?_ | refine Qn ?_ | refine Qr ?_ | refine Qe ?_ | refine Bn ?_ | refine Br ?_ | refine Be ?_ | refine Bx (by decide) ?_
          | (refine RS.nl ?_; refine hk _ _ ?_; clear hk k)
          | (refine RS.st fun A B hA hB => ?_; simp [LB, LA, FK, FJ, FI, FH, FG, hi2, ha, hv, hm, Sm.cs, hmay, hw, h7, h8, h9, q7, q8, q9, n7, n8, onW_t, onW_f, onV_s]; first | (refine hA _ _ _ ?_ ?_; (focus (first | (simp [LB, LA, FK, FJ, FI, FH, FG, hi2, ha, hv, hm, Sm.cs, hmay, hw, h7, h8, h9, q7, q8, q9, n7, n8]; done) | (simp [LB, LA, FK, FJ, FI, FH, FG, hi2, ha, hv, hm, Sm.cs, hmay, hw, h7, h8, h9, q7, q8, q9, n7, n8]; omega))); clear hA hB A B) | (refine hB ?_; clear hA hB A B) | (refine onV_if ?_ ?_; (focus (first | omega | (refine ⟨?_, ?_⟩ <;> omega))); simp only [onV_s]; refine hA _ _ _ ?_ ?_; (focus (first | (simp [LB, LA, FK, FJ, FI, FH, FG, hi2, ha, hv, hm, Sm.cs, hmay, hw, h7, h8, h9, q7, q8, q9, n7, n8]; done) | (simp [LB, LA, FK, FJ, FI, FH, FG, hi2, ha, hv, hm, Sm.cs, hmay, hw, h7, h8, h9, q7, q8, q9, n7, n8]; omega))); clear hA hB A B))
          | (refine RQ.nl ?_; refine hk _ _ ?_; clear hk k)
          | (refine RQ.st fun A B hA hB => ?_; simp [LB, LA, FK, FJ, FI, FH, FG, hi2, ha, hv, hm, Sm.cs, hmay, hw, h7, h8, h9, q7, q8, q9, n7, n8, onW_t, onW_f, onV_s]; first | (refine hA _ _ _ ?_ (by first | exact .inl rfl | exact .inr (by decide)) ?_; (focus (first | (simp [LB, LA, FK, FJ, FI, FH, FG, hi2, ha, hv, hm, Sm.cs, hmay, hw, h7, h8, h9, q7, q8, q9, n7, n8]; done) | (simp [LB, LA, FK, FJ, FI, FH, FG, hi2, ha, hv, hm, Sm.cs, hmay, hw, h7, h8, h9, q7, q8, q9, n7, n8]; omega))); clear hA hB A B) | (refine hB ?_; clear hA hB A B) | (refine onV_if ?_ ?_; (focus (first | omega | (refine ⟨?_, ?_⟩ <;> omega))); simp only [onV_s]; refine hA _ _ _ ?_ (by first | exact .inl rfl | exact .inr (by decide)) ?_; (focus (first | (simp [LB, LA, FK, FJ, FI, FH, FG, hi2, ha, hv, hm, Sm.cs, hmay, hw, h7, h8, h9, q7, q8, q9, n7, n8]; done) | (simp [LB, LA, FK, FJ, FI, FH, FG, hi2, ha, hv, hm, Sm.cs, hmay, hw, h7, h8, h9, q7, q8, q9, n7, n8]; omega))); clear hA hB A B))
          | refine WP.sr fun k hk => ?_ | refine WP.r fun k hk => ?_
          | refine WP.sd _ rfl fun k hk => ?_ | refine WP.d _ rfl fun k hk => ?_
          | (refine WP.cc fun A B hA hB => ?_; simp [LB, LA, FK, FJ, FI, FH, FG, hi2, ha, hv, hm, Sm.cs, hmay, hw, h7, h8, h9, q7, q8, q9, n7, n8, onB_t, onB_f]; first | (refine hA ?_; clear hA hB A B) | (refine hB ?_; clear hA hB A B) | (refine onB_if (fun h => hA ?_) (fun h => hB ?_) <;> clear hA hB A B))
          | refine WP.q ?_ | refine WP.b ?_)
        exact ⟨(i + 1, false), by simp; omega, by simp, by simp; omega, rfl, hall2, by rw [hf]; rfl⟩
      · generalize hF : ((k != 7 && k != 8 || decide (a < (l.length : Int))) && (k != 7 || decide (b < (l.length : Int))) && (decide ((i : Int) + 1 < (l.length : Int)) || k == 7 || k == 8 || k == 9)) = F at *
        by_cases h7 : k = 7
        · subst h7
          by_cases f1 : a < (l.length : Int) <;> by_cases f2 : b < (l.length : Int) <;> by_cases f3 : (i : Int) + 1 < (l.length : Int)
          all_goals
            simp [f1, f2, f3] at hF
            subst hF
            repeat' (first
              | refine WP.t ?_ | refine WP.k ?_ | refine WP.e ?_ | refine Qn ?_ | refine Qr ?_ | refine Qe ?_ | refine Bn ?_ | refine Br ?_ | refine Be ?_ | refine Bx (by decide) ?_
              | (refine RS.nl ?_; refine hk _ _ ?_; clear hk k)
              | (refine RS.st fun A B hA hB => ?_; simp [LB, LA, FK, FJ, FI, FH, FG, hi2, ha, hv, hm, Sm.cs, hmay, hw, f1, f2, f3, onW_t, onW_f, onV_s]; first | (refine hA _ _ _ ?_ ?_; (focus (first | (simp [LB, LA, FK, FJ, FI, FH, FG, hi2, ha, hv, hm, Sm.cs, hmay, hw, f1, f2, f3]; done) | (simp [LB, LA, FK, FJ, FI, FH, FG, hi2, ha, hv, hm, Sm.cs, hmay, hw, f1, f2, f3]; omega))); clear hA hB A B) | (refine hB ?_; clear hA hB A B) | (refine onV_if ?_ ?_; (focus (first | omega | (refine ⟨?_, ?_⟩ <;> omega))); simp only [onV_s]; refine hA _ _ _ ?_ ?_; (focus (first | (simp [LB, LA, FK, FJ, FI, FH, FG, hi2, ha, hv, hm, Sm.cs, hmay, hw, f1, f2, f3]; done) | (simp [LB, LA, FK, FJ, FI, FH, FG, hi2, ha, hv, hm, Sm.cs, hmay, hw, f1, f2, f3]; omega))); clear hA hB A B))
              | (refine RQ.nl ?_; refine hk _ _ ?_; clear hk k)
              | (refine RQ.st fun A B hA hB => ?_; simp [LB, LA, FK, FJ, FI, FH, FG, hi2, ha, hv, hm, Sm.cs, hmay, hw, f1, f2, f3, onW_t, onW_f, onV_s]; first | (refine hA _ _ _ ?_ (by first | exact .inl rfl | exact .inr (by decide)) ?_; (focus (first | (simp [LB, LA, FK, FJ, FI, FH, FG, hi2, ha, hv, hm, Sm.cs, hmay, hw, f1, f2, f3]; done) | (simp [LB, LA, FK, FJ, FI, FH, FG, hi2, ha, hv, hm, Sm.cs, hmay, hw, f1, f2, f3]; omega))); clear hA hB A B) | (refine hB ?_; clear hA hB A B) | (refine onV_if ?_ ?_; (focus (first | omega | (refine ⟨?_, ?_⟩ <;> omega))); simp only [onV_s]; refine hA _ _ _ ?_ (by first | exact .inl rfl | exact .inr (by decide)) ?_; (focus (first | (simp [LB, LA, FK, FJ, FI, FH, FG, hi2, ha, hv, hm, Sm.cs, hmay, hw, f1, f2, f3]; done) | (simp [LB, LA, FK, FJ, FI, FH, FG, hi2, ha, hv, hm, Sm.cs, hmay, hw, f1, f2, f3]; omega))); clear hA hB A B))
              | refine WP.sr fun k hk => ?_ | refine WP.r fun k hk => ?_
              | refine WP.sd _ rfl fun k hk => ?_ | refine WP.d _ rfl fun k hk => ?_
              | (refine WP.cc fun A B hA hB => ?_; simp [LB, LA, FK, FJ, FI, FH, FG, hi2, ha, hv, hm, Sm.cs, hmay, hw, f1, f2, f3, onB_t, onB_f]; first | (refine hA ?_; clear hA hB A B) | (refine hB ?_; clear hA hB A B) | (refine onB_if (fun h => hA ?_) (fun h => hB ?_) <;> clear hA hB A B))
              | refine WP.q ?_ | refine WP.b ?_)
            exact ⟨(i + 1, _), by simp; omega, by simp; rfl, by simp; omega, rfl, hall2, by rw [hf]; rfl⟩
        have q7 : (k == 7) = false := by simpa using h7
        have n7 : (k != 7) = true := by simpa using h7
        by_cases h8 : k = 8
        · subst h8
          by_cases f1 : a < (l.length : Int) <;> by_cases f3 : (i : Int) + 1 < (l.length : Int)
          all_goals
            simp [f1, f3] at hF
            subst hF
            repeat' (first
              | refine WP.t ?_ | refine WP.k ?_ | refine WP.e ?_ | refine Qn ?_ | refine Qr ?_ | refine Qe ?_ | refine Bn ?_ | refine Br ?_ | refine Be ?_ | refine Bx (by decide) ?_
              | (refine RS.nl ?_; refine hk _ _ ?_; clear hk k)
              | (refine RS.st fun A B hA hB => ?_; simp [LB, LA, FK, FJ, FI, FH, FG, hi2, ha, hv, hm, Sm.cs, hmay, hw, f1, f3, onW_t, onW_f, onV_s]; first | (refine hA _ _ _ ?_ ?_; (focus (first | (simp [LB, LA, FK, FJ, FI, FH, FG, hi2, ha, hv, hm, Sm.cs, hmay, hw, f1, f3]; done) | (simp [LB, LA, FK, FJ, FI, FH, FG, hi2, ha, hv, hm, Sm.cs, hmay, hw, f1, f3]; omega))); clear hA hB A B) | (refine hB ?_; clear hA hB A B) | (refine onV_if ?_ ?_; (focus (first | omega | (refine ⟨?_, ?_⟩ <;> omega))); simp only [onV_s]; refine hA _ _ _ ?_ ?_; (focus (first | (simp [LB, LA, FK, FJ, FI, FH, FG, hi2, ha, hv, hm, Sm.cs, hmay, hw, f1, f3]; done) | (simp [LB, LA, FK, FJ, FI, FH, FG, hi2, ha, hv, hm, Sm.cs, hmay, hw, f1, f3]; omega))); clear hA hB A B))
              | (refine RQ.nl ?_; refine hk _ _ ?_; clear hk k)
              | (refine RQ.st fun A B hA hB => ?_; simp [LB, LA, FK, FJ, FI, FH, FG, hi2, ha, hv, hm, Sm.cs, hmay, hw, f1, f3, onW_t, onW_f, onV_s]; first | (refine hA _ _ _ ?_ (by first | exact .inl rfl | exact .inr (by decide)) ?_; (focus (first | (simp [LB, LA, FK, FJ, FI, FH, FG, hi2, ha, hv, hm, Sm.cs, hmay, hw, f1, f3]; done) | (simp [LB, LA, FK, FJ, FI, FH, FG, hi2, ha, hv, hm, Sm.cs, hmay, hw, f1, f3]; omega))); clear hA hB A B) | (refine hB ?_; clear hA hB A B) | (refine onV_if ?_ ?_; (focus (first | omega | (refine ⟨?_, ?_⟩ <;> omega))); simp only [onV_s]; refine hA _ _ _ ?_ (by first | exact .inl rfl | exact .inr (by decide)) ?_; (focus (first | (simp [LB, LA, FK, FJ, FI, FH, FG, hi2, ha, hv, hm, Sm.cs, hmay, hw, f1, f3]; done) | (simp [LB, LA, FK, FJ, FI, FH, FG, hi2, ha, hv, hm, Sm.cs, hmay, hw, f1, f3]; omega))); clear hA hB A B))
              | refine WP.sr fun k hk => ?_ | refine WP.r fun k hk => ?_
              | refine WP.sd _ rfl fun k hk => ?_ | refine WP.d _ rfl fun k hk => ?_
              | (refine WP.cc fun A B hA hB => ?_; simp [LB, LA, FK, FJ, FI, FH, FG, hi2, ha, hv, hm, Sm.cs, hmay, hw, f1, f3, onB_t, onB_f]; first | (refine hA ?_; clear hA hB A B) | (refine hB ?_; clear hA hB A B) | (refine onB_if (fun h => hA ?_) (fun h => hB ?_) <;> clear hA hB A B))
              | refine WP.q ?_ | refine WP.b ?_)
            exact ⟨(i + 1, _), by simp; omega, by simp; rfl, by simp; omega, rfl, hall2, by rw [hf]; rfl⟩
        have q8 : (k == 8) = false := by simpa using h8
        have n8 : (k != 8) = true := by simpa using h8
        by_cases h9 : k = 9
        · subst h9
          by_cases f3 : (i : Int) + 1 < (l.length : Int)
          all_goals
            simp [f3] at hF
            subst hF
            repeat' (first
              | refine WP.t ?_ | refine WP.k ?_ | refine WP.e ?_ | refine Qn ?_ | refine Qr ?_ | refine Qe ?_ | refine Bn ?_ | refine Br ?_ | refine Be ?_ | refine Bx (by decide) ?_
              | (refine RS.nl ?_; refine hk _ _ ?_; clear hk k)
              | (refine RS.st fun A B hA hB => ?_; simp [LB, LA, FK, FJ, FI, FH, FG, hi2, ha, hv, hm, Sm.cs, hmay, hw, f3, onW_t, onW_f, onV_s]; first | (refine hA _ _ _ ?_ ?_; (focus (first | (simp [LB, LA, FK, FJ, FI, FH, FG, hi2, ha, hv, hm, Sm.cs, hmay, hw, f3]; done) | (simp [LB, LA, FK, FJ, FI, FH, FG, hi2, ha, hv, hm, Sm.cs, hmay, hw, f3]; omega))); clear hA hB A B) | (refine hB ?_; clear hA hB A B) | (refine onV_if ?_ ?_; (focus (first | omega | (refine ⟨?_, ?_⟩ <;> omega))); simp only [onV_s]; refine hA _ _ _ ?_ ?_; (focus (first | (simp [LB, LA, FK, FJ, FI, FH, FG, hi2, ha, hv, hm, Sm.cs, hmay, hw, f3]; done) | (simp [LB, LA, FK, FJ, FI, FH, FG, hi2, ha, hv, hm, Sm.cs, hmay, hw, f3]; omega))); clear hA hB A B))
              | (refine RQ.nl ?_; refine hk _ _ ?_; clear hk k)
              | (refine RQ.st fun A B hA hB => ?_; simp [LB, LA, FK, FJ, FI, FH, FG, hi2, ha, hv, hm, Sm.cs, hmay, hw, f3, onW_t, onW_f, onV_s]; first | (refine hA _ _ _ ?_ (by first | exact .inl rfl | exact .inr (by decide)) ?_; (focus (first | (simp [LB, LA, FK, FJ, FI, FH, FG, hi2, ha, hv, hm, Sm.cs, hmay, hw, f3]; done) | (simp [LB, LA, FK, FJ, FI, FH, FG, hi2, ha, hv, hm, Sm.cs, hmay, hw, f3]; omega))); clear hA hB A B) | (refine hB ?_; clear hA hB A B) | (refine onV_if ?_ ?_; (focus (first | omega | (refine ⟨?_, ?_⟩ <;> omega))); simp only [onV_s]; refine hA _ _ _ ?_ (by first | exact .inl rfl | exact .inr (by decide)) ?_; (focus (first | (simp [LB, LA, FK, FJ, FI, FH, FG, hi2, ha, hv, hm, Sm.cs, hmay, hw, f3]; done) | (simp [LB, LA, FK, FJ, FI, FH, FG, hi2, ha, hv, hm, Sm.cs, hmay, hw, f3]; omega))); clear hA hB A B))
              | refine WP.sr fun k hk => ?_ | refine WP.r fun k hk => ?_
              | refine WP.sd _ rfl fun k hk => ?_ | refine WP.d _ rfl fun k hk => ?_
              | (refine WP.cc fun A B hA hB => ?_; simp [LB, LA, FK, FJ, FI, FH, FG, hi2, ha, hv, hm, Sm.cs, hmay, hw, f3, onB_t, onB_f]; first | (refine hA ?_; clear hA hB A B) | (refine hB ?_; clear hA hB A B) | (refine onB_if (fun h => hA ?_) (fun h => hB ?_) <;> clear hA hB A B))
              | refine WP.q ?_ | refine WP.b ?_)
            exact ⟨(i + 1, _), by simp; omega, by simp; rfl, by simp; omega, rfl, hall2, by rw [hf]; rfl⟩
        have q9 : (k == 9) = false := by simpa using h9
        by_cases f3 : (i : Int) + 1 < (l.length : Int)
        all_goals
          simp [f3, h7, h8, h9, q7, q8, q9, n7, n8] at hF
          subst hF
          repeat' (first
            | refine WP.t ?_ | refine WP.k ?_ | refine WP.e ?_ | refine Qn ?_ | refine Qr ?_ | refine Qe ?_ | refine Bn ?_ | refine Br ?_ | refine Be ?_ | refine Bx (by decide) ?_
            | (refine RS.nl ?_; refine hk _ _ ?_; clear hk k)
            | (refine RS.st fun A B hA hB => ?_; simp [LB, LA, FK, FJ, FI, FH, FG, hi2, ha, hv, hm, Sm.cs, hmay, hw, f3, h7, h8, h9, q7, q8, q9, n7, n8, onW_t, onW_f, onV_s]; first | (refine hA _ _ _ ?_ ?_; (focus (first | (simp [LB, LA, FK, FJ, FI, FH, FG, hi2, ha, hv, hm, Sm.cs, hmay, hw, f3, h7, h8, h9, q7, q8, q9, n7, n8]; done) | (simp [LB, LA, FK, FJ, FI, FH, FG, hi2, ha, hv, hm, Sm.cs, hmay, hw, f3, h7, h8, h9, q7, q8, q9, n7, n8]; omega))); clear hA hB A B) | (refine hB ?_; clear hA hB A B) | (refine onV_if ?_ ?_; (focus (first | omega | (refine ⟨?_, ?_⟩ <;> omega))); simp only [onV_s]; refine hA _ _ _ ?_ ?_; (focus (first | (simp [LB, LA, FK, FJ, FI, FH, FG, hi2, ha, hv, hm, Sm.cs, hmay, hw, f3, h7, h8, h9, q7, q8, q9, n7, n8]; done) | (simp [LB, LA, FK, FJ, FI, FH, FG, hi2, ha, hv, hm, Sm.cs, hmay, hw, f3, h7, h8, h9, q7, q8, q9, n7, n8]; omega))); clear hA hB A B))
            | (refine RQ.nl ?_; refine hk _ _ ?_; clear hk k)
            | (refine RQ.st fun A B hA hB => ?_; simp [LB, LA, FK, FJ, FI, FH, FG, hi2, ha, hv, hm, Sm.cs, hmay, hw, f3, h7, h8, h9, q7, q8, q9, n7, n8, onW_t, onW_f, onV_s]; first | (refine hA _ _ _ ?_ (by first | exact .inl rfl | exact .inr (by decide)) ?_; (focus (first | (simp [LB, LA, FK, FJ, FI, FH, FG, hi2, ha, hv, hm, Sm.cs, hmay, hw, f3, h7, h8, h9, q7, q8, q9, n7, n8]; done) | (simp [LB, LA, FK, FJ, FI, FH, FG, hi2, ha, hv, hm, Sm.cs, hmay, hw, f3, h7, h8, h9, q7, q8, q9, n7, n8]; omega))); clear hA hB A B) | (refine hB ?_; clear hA hB A B) | (refine onV_if ?_ ?_; (focus (first | omega | (refine ⟨?_, ?_⟩ <;> omega))); simp only [onV_s]; refine hA _ _ _ ?_ (by first | exact .inl rfl | exact .inr (by decide)) ?_; (focus (first | (simp [LB, LA, FK, FJ, FI, FH, FG, hi2, ha, hv, hm, Sm.cs, hmay, hw, f3, h7, h8, h9, q7, q8, q9, n7, n8]; done) | (simp [LB, LA, FK, FJ, FI, FH, FG, hi2, ha, hv, hm, Sm.cs, hmay, hw, f3, h7, h8, h9, q7, q8, q9, n7, n8]; omega))); clear hA hB A B))
            | refine WP.sr fun k hk => ?_ | refine WP.r fun k hk => ?_
            | refine WP.sd _ rfl fun k hk => ?_ | refine WP.d _ rfl fun k hk => ?_
            | (refine WP.cc fun A B hA hB => ?_; simp [LB, LA, FK, FJ, FI, FH, FG, hi2, ha, hv, hm, Sm.cs, hmay, hw, f3, h7, h8, h9, q7, q8, q9, n7, n8, onB_t, onB_f]; first | (refine hA ?_; clear hA hB A B) | (refine hB ?_; clear hA hB A B) | (refine onB_if (fun h => hA ?_) (fun h => hB ?_) <;> clear hA hB A B))
            | refine WP.q ?_ | refine WP.b ?_)
          exact ⟨(i + 1, _), by simp; omega, by simp; rfl, by simp; omega, rfl, hall2, by rw [hf]; rfl⟩
  · have hfull : l.take i = l := List.take_of_length_le (by omega)
    rw [hfull] at hall
    have hd : l.drop i = [] := List.drop_of_length_le (by omega)
    rw [hd] at hf
    simp only [fineB, Bool.and_true] at hf
    obtain ⟨hc1, hc2⟩ := chk_fine l l.length 0 (by simp) (List.all_eq_true.1 hall)
    rw [hf] at hc1
    cases fine
    · have hz : (chk l.length 0 l).2 = 12 := hc2.resolve_left fun h => by simpa using hc1.1 h
      repeat' (first
        | refine WP.t ?_ | refine WP.k ?_ | refine WP.e ?_ | refine Qn ?_ | refine Qr ?_ | refine Qe ?_ | refine Bn ?_ | refine Br ?_ | refine Be ?_ | refine Bx (by decide) ?_
        | (refine RS.nl ?_; refine hk _ _ ?_; clear hk k)
        | (refine RS.st fun A B hA hB => ?_; simp [LB, LA, hi2, hok, hz, onW_t, onW_f, onV_s]; first | (refine hA _ _ _ ?_ ?_; (focus (first | (simp [LB, LA, hi2, hok, hz]; done) | (simp [LB, LA, hi2, hok, hz]; omega))); clear hA hB A B) | (refine hB ?_; clear hA hB A B) | (refine onV_if ?_ ?_; (focus (first | omega | (refine ⟨?_, ?_⟩ <;> omega))); simp only [onV_s]; refine hA _ _ _ ?_ ?_; (focus (first | (simp [LB, LA, hi2, hok, hz]; done) | (simp [LB, LA, hi2, hok, hz]; omega))); clear hA hB A B))
        | (refine RQ.nl ?_; refine hk _ _ ?_; clear hk k)
        | (refine RQ.st fun A B hA hB => ?_; simp [LB, LA, hi2, hok, hz, onW_t, onW_f, onV_s]; first | (refine hA _ _ _ ?_ (by first | exact .inl rfl | exact .inr (by decide)) ?_; (focus (first | (simp [LB, LA, hi2, hok, hz]; done) | (simp [LB, LA, hi2, hok, hz]; omega))); clear hA hB A B) | (refine hB ?_; clear hA hB A B) | (refine onV_if ?_ ?_; (focus (first | omega | (refine ⟨?_, ?_⟩ <;> omega))); simp only [onV_s]; refine hA _ _ _ ?_ (by first | exact .inl rfl | exact .inr (by decide)) ?_; (focus (first | (simp [LB, LA, hi2, hok, hz]; done) | (simp [LB, LA, hi2, hok, hz]; omega))); clear hA hB A B))
        | refine WP.sr fun k hk => ?_ | refine WP.r fun k hk => ?_
        | refine WP.sd _ rfl fun k hk => ?_ | refine WP.d _ rfl fun k hk => ?_
        | (refine WP.cc fun A B hA hB => ?_; simp [LB, LA, hi2, hok, hz, onB_t, onB_f]; first | (refine hA ?_; clear hA hB A B) | (refine hB ?_; clear hA hB A B) | (refine onB_if (fun h => hA ?_) (fun h => hB ?_) <;> clear hA hB A B))
        | refine WP.q ?_ | refine WP.b ?_)
      simp
    · have hz : (chk l.length 0 l).2 = 0 := hc1.2 rfl
      repeat' (first
        | refine WP.t ?_ | refine WP.k ?_ | refine WP.e ?_ | refine Qn ?_ | refine Qr ?_ | refine Qe ?_ | refine Bn ?_ | refine Br ?_ | refine Be ?_ | refine Bx (by decide) ?_
        | (refine RS.nl ?_; refine hk _ _ ?_; clear hk k)
        | (refine RS.st fun A B hA hB => ?_; simp [LB, LA, hi2, hok, hz, onW_t, onW_f, onV_s]; first | (refine hA _ _ _ ?_ ?_; (focus (first | (simp [LB, LA, hi2, hok, hz]; done) | (simp [LB, LA, hi2, hok, hz]; omega))); clear hA hB A B) | (refine hB ?_; clear hA hB A B) | (refine onV_if ?_ ?_; (focus (first | omega | (refine ⟨?_, ?_⟩ <;> omega))); simp only [onV_s]; refine hA _ _ _ ?_ ?_; (focus (first | (simp [LB, LA, hi2, hok, hz]; done) | (simp [LB, LA, hi2, hok, hz]; omega))); clear hA hB A B))
        | (refine RQ.nl ?_; refine hk _ _ ?_; clear hk k)
        | (refine RQ.st fun A B hA hB => ?_; simp [LB, LA, hi2, hok, hz, onW_t, onW_f, onV_s]; first | (refine hA _ _ _ ?_ (by first | exact .inl rfl | exact .inr (by decide)) ?_; (focus (first | (simp [LB, LA, hi2, hok, hz]; done) | (simp [LB, LA, hi2, hok, hz]; omega))); clear hA hB A B) | (refine hB ?_; clear hA hB A B) | (refine onV_if ?_ ?_; (focus (first | omega | (refine ⟨?_, ?_⟩ <;> omega))); simp only [onV_s]; refine hA _ _ _ ?_ (by first | exact .inl rfl | exact .inr (by decide)) ?_; (focus (first | (simp [LB, LA, hi2, hok, hz]; done) | (simp [LB, LA, hi2, hok, hz]; omega))); clear hA hB A B))
        | refine WP.sr fun k hk => ?_ | refine WP.r fun k hk => ?_
        | refine WP.sd _ rfl fun k hk => ?_ | refine WP.d _ rfl fun k hk => ?_
        | (refine WP.cc fun A B hA hB => ?_; simp [LB, LA, hi2, hok, hz, onB_t, onB_f]; first | (refine hA ?_; clear hA hB A B) | (refine hB ?_; clear hA hB A B) | (refine onB_if (fun h => hA ?_) (fun h => hB ?_) <;> clear hA hB A B))
        | refine WP.q ?_ | refine WP.b ?_)
      simp
end
end Go.Am
