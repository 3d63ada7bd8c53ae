/- Part of the proof: abstract values over the given model of Go (T35, T36, T37, T38). Conditions: none of its own; see the statement in the seat's Rows text. -/
import Derived.Test.YtcahihhgikmloaaDoorAmSb
import Derived.Test.YtcahihhgikmloaaDoorAmFour
set_option linter.unusedSimpArgs false
set_option linter.unusedVariables false
set_option linter.unusedSectionVars false
namespace Go.Am
open Go.Proofs
theorem ite_P {P : Rows0 → Prop} {x y : Rows0} (c : Prop) [Decidable c] (hx : P x) (hy : P y) : P (if c then x else y) := by split <;> assumption
section
variable {P : Rows0 → Prop} (hP : ∀ D i j, P D → P (swp D i j))
include hP
theorem movU_P : ∀ (c q : Nat) {D : Rows0}, P D → P (movU c q D)
  | 0, _, _, h => h
  | c + 1, q, D, h => by unfold movU; exact movU_P c _ (hP _ _ _ h)
theorem movD_P (i : Nat) : ∀ (q : Nat) {D : Rows0}, P D → P (movD i q D)
  | 0, _, h => h
  | q + 1, D, h => by
    unfold movD
    split
    · exact movD_P i q (hP _ _ _ h)
    · exact h
theorem swapR_P : ∀ (n : Nat) {D : Rows0} (a b : Nat), P D → P (swapR n D a b)
  | 0, _, _, _, h => h
  | n + 1, D, a, b, h => by unfold swapR; exact swapR_P n _ _ (hP _ _ _ h)
theorem rotF_P (m : Nat) : ∀ (n i j : Nat) {D : Rows0}, P D → P (rotF m n i j D)
  | 0, _, _, _, h => h
  | n + 1, i, j, D, h => by
    unfold rotF
    split
    · exact swapR_P hP _ _ _ h
    · split
      · exact rotF_P m n _ _ (swapR_P hP _ _ _ h)
      · exact rotF_P m n _ _ (swapR_P hP _ _ _ h)
end
def symS (D : Rows0) (nn i0 j0 : Nat) : Nat := bs (fun c => !decide (cmpT (gD D (nn - 1 - c)) (gD D c) < 0)) (j0 - i0) i0 j0
def symF : Nat → Nat → Nat → Nat → Rows0 → Rows0
  | 0, _, _, _, D => D
  | n + 1, a, m, b, D =>
    if m = a + 1 then movU (bs (fun q => decide (cmpT (gD D q) (gD D a) < 0)) (b - (a + 1)) (a + 1) b - 1 - a) a D
    else if b = m + 1 then movD (bs (fun q => !decide (cmpT (gD D m) (gD D q) < 0)) (m - a) a m) m D
    else
      let mid := (a + b) / 2
      let st := symS D (mid + m) (if mid < m then mid + m - b else a) (if mid < m then mid else m)
      let en := mid + m - st
      let D1 := if st < m ∧ m < en then rotF m (en - st) (m - st) (en - m) D else D
      let D2 := if a < st ∧ st < mid then symF n a st mid D1 else D1
      if mid < en ∧ en < b then symF n mid en b D2 else D2
theorem symF_P {P : Rows0 → Prop} (hP : ∀ D i j, P D → P (swp D i j)) : ∀ (n a m b : Nat) {D : Rows0}, P D → P (symF n a m b D) := by
  intro n
  induction n with
  | zero => intro a m b D h; exact h
  | succ n ih =>
    intro a m b D h
    unfold symF
    refine ite_P _ (movU_P hP _ _ h) (ite_P _ (movD_P hP _ _ h) ?_)
    exact ite_P _ (ih _ _ _ (ite_P _ (ih _ _ _ (ite_P _ (rotF_P hP _ _ _ _ h) h)) (ite_P _ (rotF_P hP _ _ _ _ h) h))) (ite_P _ (ih _ _ _ (ite_P _ (rotF_P hP _ _ _ _ h) h)) (ite_P _ (rotF_P hP _ _ _ _ h) h))
theorem symF_length (n a m b : Nat) (D : Rows0) : (symF n a m b D).length = D.length := symF_P (P := fun X => X.length = D.length) (fun X i j h => by rw [swp_length]; exact h) n a m b (D := D) rfl
theorem symF_ok (n a m b : Nat) {D : Rows0} (h : okD D) : okD (symF n a m b D) := symF_P (P := okD) (fun X i j h => swp_ok h i j) n a m b (D := D) h
def okB (D : Rows0) : Bool := D.all fun t => decide (t.length < LIM)
theorem okB_iff {D : Rows0} : okB D = true ↔ okD D := okD_all
section
variable {K : Nat} {gw : World} {s : St}
attribute [local simp] awanted xop zOf zrow aop ev T0 Slots.put Slots.set Slots.get awr WOk AV.may ofConst abinop aint isConst St.get_push St.get_put St.live AV.fit AV.cells AV.one fieldOf afieldAddr aload ofCells astore splice May eqres env_ti FinP FinZ FinW ares aresL ares1 Fns.addP Fns.add Fns.a0 Fns.a1 Fns.a2 Fns.a3 Fns.a4 abuiltin alenOk alen aindex elemOfT elemId abuildSlice afill chunks ard aappend isSS AV.isStr aminmax placesOf abuild afield aidx isStrD isStrDesc astrop aslice asliceOk abound arange anext aextract aunop aeq AV.ck avseq aveq aconv aconvert onB_t onB_f List.range_succ ti0 ti1 ti2 ti3 ti4 ti5 ti6 ti7 ti8 ti9 ti10 ti11 ti12 ti13 ti14 ti15 ti16 ti17 ti18 ti19 ti20 ti21 ti22 ti23 ti24 ti25 ti26 ti27 ti28 ti29 ti30 ti31 ti32 ti33 ti34 ti35 ti36 ti37 ti38 ti39 ti40 ti41 ti42 ti43 ti44 ti45 ti46 ti47 ti48 ti49 ti50 ti51 ti52 ti53 ti54 ti55 ti56 ti57 ti58 ti59 ti60 ti61 ti62 ti63 ti64 ti65 ti66 ti67 ti68 ti69 ti70 ti71 ti72 ti73 ti74 ti75 ti76 ti77 ti78 ti79 ti80 ti81 ti82 ti83 ti84 ti85 ti86 ti87 ti88 ti89 ti90 ti91 ti92 ti93 ti94 ti95 ti96 ti97 ti98 ti99 ti100 ti101 ti102 ti103 ti104 ti105 ti106 ti107 ti108 ti109 ti110 ti111 ti112 ti113 ti114 ti115 ti116 ti117 ti118 ti119 ti120 ti121 ti122 ti123 ti124 ti125 ti126 ti127 ti128 ti129 ti130 ti131 ti132 ti133 ti134 ti135 ti136 ti137 ti138 ti139 ti140 ti141 ti142 ti143 ti144 ti145 ti146 ti147
def gSym (q : Nat) (xs : List AV) (s : St) : Option (AV × St × List Nat) :=
  match xs with
  | [.ls id 0 n, .int .i64 a, .int .i64 m, .int .i64 b, .fn (.func 60) [] []] => if id < s.nx then (match s.get id with
    | some (.row 1 (true, 33) es) => match decD es with
      | some D => if (n = D.length ∧ D.length < 1073741824) ∧ (0 ≤ a ∧ a < m ∧ m < b ∧ b ≤ D.length ∧ b - a ≤ q) ∧ okB D = true then some (.tup [], s.put id (rowO (symF q a.toNat m.toNat b.toNat D)), [id]) else none
      | none => none
    | _ => none) else none
  | _ => none
set_option maxRecDepth 20000 in
set_option maxHeartbeats 16000000 in
theorem ft64c (hK : 0 < K) (hT : Tens gw) (F : Fns) (hF : FOk (env K gw) F) (qn : Nat) (hcmp : ∀ (x y : List V) (s : St), x.length < LIM → y.length < LIM → F 60 [.sl (x.map V.cs), .sl (y.map V.cs)] s = some (.int .i64 (cmpT x y), s, []))
    (hrot : ∀ xs s, F 82 xs s = gRot xs s) (hsym : ∀ xs s, F 73 xs s = gSym qn xs s) {id : Nat} (D : Rows0) (hid : id < s.nx) (hs : s.get id = some (rowO D)) (a m b : Nat) (ham : a + 1 < m) (hmb : m + 1 < b) (hbl : b ≤ D.length) (hl : D.length < 1073741824) (hq : b - a ≤ qn + 1) (hok : okD D) :
    FT (env K gw) (fun i => i ∈ [id]) 73 [.ls id 0 D.length, .int .i64 a, .int .i64 m, .int .i64 b, .fn (.func 60) [] []] s (.tup []) (s.put id (rowO (symF (qn + 1) a m b D))) := by
  refine FT.own (fn := Tryd.f73) hF mixed Tryd.func73 (by kernel_rfl) (by rfl) rfl rfl (by simp) (by kernel_rfl) fun μ w => ?_
  have w0 : IntKind.i64.wrap ((m : Int) - (a : Int)) = (m : Int) - (a : Int) := by rw [wrap64 (by omega) (by omega)]
  have w0' : ((m : Int) - (a : Int) == 1) = false := by rw [beq_eq_false_iff_ne]; omega
  have w1 : IntKind.i64.wrap ((b : Int) - (m : Int)) = (b : Int) - (m : Int) := by rw [wrap64 (by omega) (by omega)]
  have w1' : ((b : Int) - (m : Int) == 1) = false := by rw [beq_eq_false_iff_ne]; omega
  have hF0 : symF (qn + 1) a m b D = (let mid := (a + b) / 2
      let st := symS D (mid + m) (if mid < m then mid + m - b else a) (if mid < m then mid else m)
      let en := mid + m - st
      let D1 := if st < m ∧ m < en then rotF m (en - st) (m - st) (en - m) D else D
      let D2 := if a < st ∧ st < mid then symF qn a st mid D1 else D1
      if mid < en ∧ en < b then symF qn mid en b D2 else D2) := by
    conv => lhs; unfold symF
    rw [if_neg (by omega), if_neg (by omega)]
  rw [hF0]
  simp only
  generalize hmid : (a + b) / 2 = mid at *
  have c1 : IntKind.i64.wrap ((a : Int) + (b : Int)) = (a : Int) + (b : Int) := wrap64 (by omega) (by omega)
  have c2 : IntKind.u64.wrap ((a : Int) + (b : Int)) = (a : Int) + (b : Int) := wrapu (by omega) (by omega)
  have c3 : ((a : Int) + (b : Int)).fdiv 2 = (mid : Int) := by rw [Int.fdiv_eq_ediv_of_nonneg _ (by omega)]; omega
  have c4 : IntKind.i64.wrap (mid : Int) = (mid : Int) := wrap64 (by omega) (by omega)
  have c5 : IntKind.i64.wrap ((mid : Int) + (m : Int)) = ((mid + m : Nat) : Int) := by rw [wrap64 (by omega) (by omega)]; omega
  generalize hnn : mid + m = nn at *
  have c6 : IntKind.i64.wrap ((nn : Int) - (b : Int)) = ((nn - b : Nat) : Int) ∨ ¬ mid < m := by
    by_cases h : mid < m
    · left; rw [wrap64 (by omega) (by omega)]; omega
    · exact .inr h
  have c7 : IntKind.i64.wrap ((nn : Int) - 1) = ((nn - 1 : Nat) : Int) := by rw [wrap64 (by omega) (by omega)]; omega
  generalize hpp : nn - 1 = pp at *
  generalize hi0 : (if mid < m then nn - b else a) = i0 at *
  generalize hj0 : (if mid < m then mid else m) = j0 at *
  have bnd : a ≤ i0 ∧ i0 ≤ j0 ∧ j0 ≤ mid ∧ j0 ≤ m ∧ pp < b + i0 := by
    by_cases h : mid < m
    · rw [if_pos h] at hi0 hj0; omega
    · rw [if_neg h] at hi0 hj0; omega
  generalize hst : symS D nn i0 j0 = st at *
  by_cases hmm : mid < m
  · have c6' := c6.resolve_right (fun h => h hmm)
    rw [if_pos hmm] at hi0 hj0
    rw [hi0] at c6'
    have hj0' : (mid : Int) = (j0 : Int) := by omega
    have hmi : (mid : Int) < (m : Int) := by omega
    unfold symS at hst
    rw [hpp] at hst
    repeat' (first
      | refine WP.t ?_ | refine WP.k ?_ | refine WP.e ?_ | refine Qn ?_ | refine Qr ?_ | refine Qe ?_ | refine Bn ?_ | refine Br ?_ | refine Be ?_ | refine Bx (by decide) ?_
      | (refine RS.nl ?_; refine hk _ _ ?_; clear hk k)
      | ((first | refine RS.st fun A B hA hB => ?_ | refine RQ.st fun A B hA hB => ?_); simp [w0, w0', w1, w1', c1, c2, c3, c4, c5, c6', c7, hmi, ti130, ti3, aconv, aconvert, ashift, IntKind.bits, onW_t, onW_f, onV_s]; first | ((first | refine hA _ _ _ ?_ ?_ | refine hA _ _ _ ?_ (by first | exact .inl rfl | exact .inr (by decide)) ?_); (focus (simp [w0, w0', w1, w1', c1, c2, c3, c4, c5, c6', c7, hmi, ti130, ti3, aconv, aconvert, ashift, IntKind.bits] <;> omega)); clear hA hB A B) | (refine hB ?_; clear hA hB A B) | (refine onV_if ?_ ?_; (focus (first | omega | (refine ⟨?_, ?_⟩ <;> omega))); simp only [onV_s]; (first | refine hA _ _ _ ?_ ?_ | refine hA _ _ _ ?_ (by first | exact .inl rfl | exact .inr (by decide)) ?_); (focus (simp [w0, w0', w1, w1', c1, c2, c3, c4, c5, c6', c7, hmi, ti130, ti3, aconv, aconvert, ashift, IntKind.bits] <;> omega)); clear hA hB A B))
      | (refine RQ.nl ?_; refine hk _ _ ?_; clear hk k)
      | refine WP.sr fun k hk => ?_ | refine WP.r fun k hk => ?_
      | refine WP.sd _ rfl fun k hk => ?_ | refine WP.d _ rfl fun k hk => ?_
      | (refine WP.cc fun A B hA hB => ?_; simp [w0, w0', w1, w1', c1, c2, c3, c4, c5, c6', c7, hmi, ti130, ti3, aconv, aconvert, ashift, IntKind.bits, onB_t, onB_f]; first | (refine hA ?_; clear hA hB A B) | (refine hB ?_; clear hA hB A B) | (refine onB_if (fun h => hA ?_) (fun h => hB ?_) <;> clear hA hB A B))
      | refine WP.q ?_ | refine WP.b ?_)
    refine WP_loop (fun q T s' => ∃ (i j : Nat), q = j - i ∧ i0 ≤ i ∧ i ≤ j ∧ j ≤ j0 ∧ s' = s.put id (rowO D) ∧ (∃ n, j - i ≤ n ∧ bs (fun c => !decide (cmpT (gD D (pp - c)) (gD D c) < 0)) n i j = st) ∧ T.get 0 = .ls id 0 D.length ∧ T.get 1 = .int .i64 a ∧ T.get 2 = .int .i64 m ∧ T.get 3 = .int .i64 b ∧ T.get 4 = .fn (.func 60) [] [] ∧ T.get 18 = .int .i64 mid ∧ T.get 19 = .int .i64 nn ∧ T.get 22 = .int .i64 pp ∧ T.get 20 = .int .i64 i ∧ T.get 21 = .int .i64 j)
      (j0 - i0) ⟨i0, j0, rfl, Nat.le_refl _, by omega, Nat.le_refl _, (St.put_self hs).symm, ⟨_, Nat.le_refl _, hst⟩, by simp, by simp, by simp, by simp, by simp, by simp, by simp, by simp, by simp, by simp [hj0']⟩ ?_
    rintro q T s' ⟨i, j, hqq, hai, hij, hjb, rfl, ⟨n, hn, hbs⟩, g0, g1, g2, g3, g4, g18, g19, g22, g20, g21⟩
    by_cases hlt : i < j
    · have hlti : (i : Int) < (j : Int) := by omega
      obtain ⟨n, rfl⟩ : ∃ r, n = r + 1 := ⟨n - 1, by omega⟩
      generalize hdd : (i + j) / 2 = d at *
      have d1 : IntKind.i64.wrap ((i : Int) + (j : Int)) = (i : Int) + (j : Int) := wrap64 (by omega) (by omega)
      have d2 : IntKind.u64.wrap ((i : Int) + (j : Int)) = (i : Int) + (j : Int) := wrapu (by omega) (by omega)
      have d3 : ((i : Int) + (j : Int)).fdiv 2 = (d : Int) := by rw [Int.fdiv_eq_ediv_of_nonneg _ (by omega)]; omega
      have d4 : IntKind.i64.wrap (d : Int) = (d : Int) := wrap64 (by omega) (by omega)
      have d5 : IntKind.i64.wrap ((d : Int) + 1) = (d : Int) + 1 := wrap64 (by omega) (by omega)
      have i1 : d < D.length := by omega
      have hpd : d ≤ pp := by omega
      have i2 : pp - d < D.length := by omega
      have d6 : IntKind.i64.wrap ((pp : Int) - (d : Int)) = ((pp - d : Nat) : Int) := by rw [wrap64 (by omega) (by omega)]; omega
      have p1 : (d : Int) < (D.length : Int) := by omega
      have p2 : ((pp - d : Nat) : Int) < (D.length : Int) := by omega
      have hx := encD_get i1
      have hy := encD_get i2
      have ox := hok _ (List.getElem_mem i1)
      have oy := hok _ (List.getElem_mem i2)
      have e1 := gD_of i1
      have e2 := gD_of i2
      have p3 : 0 < K := hK
      by_cases hc : cmpT (gD D (pp - d)) (gD D d) < 0
      · rw [bs_no hlt (by rw [hdd]; simp [hc]), hdd] at hbs
        rw [e1, e2] at hc
        generalize hpdd : pp - d = pd at *
        generalize D[d] = x at *
        generalize D[pd] = y at *
        have rwx : Rw x = [.sl (x.map V.cs)] := rfl
        have rwy : Rw y = [.sl (y.map V.cs)] := rfl
        have hcm := hcmp y x (s.put id (rowO D)) oy ox
        repeat' (first
          | refine WP.t ?_ | refine WP.k ?_ | refine WP.e ?_ | refine Qn ?_ | refine Qr ?_ | refine Qe ?_ | refine Bn ?_ | refine Br ?_ | refine Be ?_ | refine Bx (by decide) ?_
          | (refine RS.nl ?_; refine hk _ _ ?_; clear hk k)
          | ((first | refine RS.st fun A B hA hB => ?_ | refine RQ.st fun A B hA hB => ?_); simp [hcm, g0, g1, g2, g3, g4, g18, g19, g20, g21, g22, hlti, d1, d2, d3, d4, d5, d6, p1, p2, p3, hx, hy, rwx, rwy, hc, ti36, ti33, ti130, ti3, elemOfT, aindex, aconv, aconvert, ashift, IntKind.bits, aunop, St.get_put_same, onW_t, onW_f, onV_s]; first | ((first | refine hA _ _ _ ?_ ?_ | refine hA _ _ _ ?_ (by first | exact .inl rfl | exact .inr (by decide)) ?_); (focus (simp [hcm, g0, g1, g2, g3, g4, g18, g19, g20, g21, g22, hlti, d1, d2, d3, d4, d5, d6, p1, p2, p3, hx, hy, rwx, rwy, hc, ti36, ti33, ti130, ti3, elemOfT, aindex, aconv, aconvert, ashift, IntKind.bits, aunop, St.get_put_same] <;> omega)); clear hA hB A B) | (refine hB ?_; clear hA hB A B) | (refine onV_if ?_ ?_; (focus (first | omega | (refine ⟨?_, ?_⟩ <;> omega))); simp only [onV_s]; (first | refine hA _ _ _ ?_ ?_ | refine hA _ _ _ ?_ (by first | exact .inl rfl | exact .inr (by decide)) ?_); (focus (simp [hcm, g0, g1, g2, g3, g4, g18, g19, g20, g21, g22, hlti, d1, d2, d3, d4, d5, d6, p1, p2, p3, hx, hy, rwx, rwy, hc, ti36, ti33, ti130, ti3, elemOfT, aindex, aconv, aconvert, ashift, IntKind.bits, aunop, St.get_put_same] <;> omega)); clear hA hB A B))
          | (refine RQ.nl ?_; refine hk _ _ ?_; clear hk k)
          | refine WP.sr fun k hk => ?_ | refine WP.r fun k hk => ?_
          | refine WP.sd _ rfl fun k hk => ?_ | refine WP.d _ rfl fun k hk => ?_
          | (refine WP.cc fun A B hA hB => ?_; simp [hcm, g0, g1, g2, g3, g4, g18, g19, g20, g21, g22, hlti, d1, d2, d3, d4, d5, d6, p1, p2, p3, hx, hy, rwx, rwy, hc, ti36, ti33, ti130, ti3, elemOfT, aindex, aconv, aconvert, ashift, IntKind.bits, aunop, St.get_put_same, onB_t, onB_f]; first | (refine hA ?_; clear hA hB A B) | (refine hB ?_; clear hA hB A B) | (refine onB_if (fun h => hA ?_) (fun h => hB ?_) <;> clear hA hB A B))
          | refine WP.q ?_ | refine WP.b ?_)
        exact ⟨d - i, by omega, i, d, rfl, hai, by omega, by omega, rfl, ⟨n, by omega, hbs⟩, by simp [g0], by simp [g1], by simp [g2], by simp [g3], by simp [g4], by simp [g18], by simp [g19], by simp [g22], by simp [g20], by simp⟩
      · rw [bs_yes hlt (by rw [hdd]; simp [hc]), hdd] at hbs
        rw [e1, e2] at hc
        generalize hpdd : pp - d = pd at *
        generalize D[d] = x at *
        generalize D[pd] = y at *
        have rwx : Rw x = [.sl (x.map V.cs)] := rfl
        have rwy : Rw y = [.sl (y.map V.cs)] := rfl
        have hcm := hcmp y x (s.put id (rowO D)) oy ox
        repeat' (first
          | refine WP.t ?_ | refine WP.k ?_ | refine WP.e ?_ | refine Qn ?_ | refine Qr ?_ | refine Qe ?_ | refine Bn ?_ | refine Br ?_ | refine Be ?_ | refine Bx (by decide) ?_
          | (refine RS.nl ?_; refine hk _ _ ?_; clear hk k)
          | ((first | refine RS.st fun A B hA hB => ?_ | refine RQ.st fun A B hA hB => ?_); simp [hcm, g0, g1, g2, g3, g4, g18, g19, g20, g21, g22, hlti, d1, d2, d3, d4, d5, d6, p1, p2, p3, hx, hy, rwx, rwy, hc, ti36, ti33, ti130, ti3, elemOfT, aindex, aconv, aconvert, ashift, IntKind.bits, aunop, St.get_put_same, onW_t, onW_f, onV_s]; first | ((first | refine hA _ _ _ ?_ ?_ | refine hA _ _ _ ?_ (by first | exact .inl rfl | exact .inr (by decide)) ?_); (focus (simp [hcm, g0, g1, g2, g3, g4, g18, g19, g20, g21, g22, hlti, d1, d2, d3, d4, d5, d6, p1, p2, p3, hx, hy, rwx, rwy, hc, ti36, ti33, ti130, ti3, elemOfT, aindex, aconv, aconvert, ashift, IntKind.bits, aunop, St.get_put_same] <;> omega)); clear hA hB A B) | (refine hB ?_; clear hA hB A B) | (refine onV_if ?_ ?_; (focus (first | omega | (refine ⟨?_, ?_⟩ <;> omega))); simp only [onV_s]; (first | refine hA _ _ _ ?_ ?_ | refine hA _ _ _ ?_ (by first | exact .inl rfl | exact .inr (by decide)) ?_); (focus (simp [hcm, g0, g1, g2, g3, g4, g18, g19, g20, g21, g22, hlti, d1, d2, d3, d4, d5, d6, p1, p2, p3, hx, hy, rwx, rwy, hc, ti36, ti33, ti130, ti3, elemOfT, aindex, aconv, aconvert, ashift, IntKind.bits, aunop, St.get_put_same] <;> omega)); clear hA hB A B))
          | (refine RQ.nl ?_; refine hk _ _ ?_; clear hk k)
          | refine WP.sr fun k hk => ?_ | refine WP.r fun k hk => ?_
          | refine WP.sd _ rfl fun k hk => ?_ | refine WP.d _ rfl fun k hk => ?_
          | (refine WP.cc fun A B hA hB => ?_; simp [hcm, g0, g1, g2, g3, g4, g18, g19, g20, g21, g22, hlti, d1, d2, d3, d4, d5, d6, p1, p2, p3, hx, hy, rwx, rwy, hc, ti36, ti33, ti130, ti3, elemOfT, aindex, aconv, aconvert, ashift, IntKind.bits, aunop, St.get_put_same, onB_t, onB_f]; first | (refine hA ?_; clear hA hB A B) | (refine hB ?_; clear hA hB A B) | (refine onB_if (fun h => hA ?_) (fun h => hB ?_) <;> clear hA hB A B))
          | refine WP.q ?_ | refine WP.b ?_)
        exact ⟨j - (d + 1), by omega, d + 1, j, rfl, by omega, by omega, hjb, rfl, ⟨n, by omega, hbs⟩, by simp [g0], by simp [g1], by simp [g2], by simp [g3], by simp [g4], by simp [g18], by simp [g19], by simp [g22], by simp, by simp [g21]⟩
    · have hlti : ¬ (i : Int) < (j : Int) := by omega
      rw [bs_end hlt] at hbs
      subst hbs
      have e24 : IntKind.i64.wrap ((nn : Int) - (i : Int)) = ((nn - i : Nat) : Int) := by rw [wrap64 (by omega) (by omega)]; omega
      generalize hen : nn - i = en at *
      have o0 := okB_iff.2 hok
      have o1 : okB (rotF m (en - i) (m - i) (en - m) D) = true := okB_iff.2 (rotF_ok m _ _ _ hok)
      have l1 : (rotF m (en - i) (m - i) (en - m) D).length = D.length := rotF_length m _ _ _ _
      generalize hD1 : rotF m (en - i) (m - i) (en - m) D = R1 at *
      have o2 : ∀ X : Rows0, okB X = true → okB (symF qn a i mid X) = true := fun X h => okB_iff.2 (symF_ok _ _ _ _ (okB_iff.1 h))
      have l2 : ∀ X : Rows0, (symF qn a i mid X).length = X.length := fun X => symF_length _ _ _ _ _
      have enb : en ≤ b := by omega
      have z1 : (mid : Int) - (a : Int) ≤ (qn : Int) := by omega
      have z2 : (b : Int) - (mid : Int) ≤ (qn : Int) := by omega
      have z3 : (mid : Int) ≤ (D.length : Int) := by omega
      have z4 : (b : Int) ≤ (D.length : Int) := by omega
      have z5 : (en : Int) ≤ (D.length : Int) := by omega
      by_cases k1 : i < m <;> by_cases k2 : i < mid <;> by_cases k3 : a < i <;> by_cases k6 : en < b
      all_goals
        have k1' : (i : Int) < (m : Int) ↔ i < m := by omega
        have k2' : (i : Int) < (mid : Int) ↔ i < mid := by omega
        have k3' : (a : Int) < (i : Int) ↔ a < i := by omega
        have k6' : (en : Int) < (b : Int) ↔ en < b := by omega
        have k4' : (m : Int) < (en : Int) ↔ i < mid := by omega
        have k5' : (mid : Int) < (en : Int) ↔ i < m := by omega
        have k4'' : m < en ↔ i < mid := by omega
        have k5'' : mid < en ↔ i < m := by omega
        simp only [k4'', k5'']
        simp only [k1, k2, k3, k6, iff_true, iff_false] at k1' k2' k3' k4' k5' k6'
        simp only [k1, k2, k3, k6, and_self, and_true, true_and, and_false, false_and, if_true, if_false]
        repeat' (first
          | refine WP.t ?_ | refine WP.k ?_ | refine WP.e ?_ | refine Qn ?_ | refine Qr ?_ | refine Qe ?_ | refine Bn ?_ | refine Br ?_ | refine Be ?_ | refine Bx (by decide) ?_
          | (refine RS.nl ?_; refine hk _ _ ?_; clear hk k)
          | ((first | refine RS.st fun A B hA hB => ?_ | refine RQ.st fun A B hA hB => ?_); simp [hrot, hsym, gRot, gSym, g0, g1, g2, g3, g4, g18, g19, g20, g21, g22, hlti, hid, hl, e24, k1', k2', k3', k4', k5', k6', o0, o1, o2, l1, l2, z1, z2, z3, z4, z5, hD1, St.get_put_same, onW_t, onW_f, onV_s]; first | ((first | refine hA _ _ _ ?_ ?_ | refine hA _ _ _ ?_ (by first | exact .inl rfl | exact .inr (by decide)) ?_); (focus (simp [hrot, hsym, gRot, gSym, g0, g1, g2, g3, g4, g18, g19, g20, g21, g22, hlti, hid, hl, e24, k1', k2', k3', k4', k5', k6', o0, o1, o2, l1, l2, z1, z2, z3, z4, z5, hD1, St.get_put_same] <;> omega)); clear hA hB A B) | (refine hB ?_; clear hA hB A B) | (refine onV_if ?_ ?_; (focus (first | omega | (refine ⟨?_, ?_⟩ <;> omega))); simp only [onV_s]; (first | refine hA _ _ _ ?_ ?_ | refine hA _ _ _ ?_ (by first | exact .inl rfl | exact .inr (by decide)) ?_); (focus (simp [hrot, hsym, gRot, gSym, g0, g1, g2, g3, g4, g18, g19, g20, g21, g22, hlti, hid, hl, e24, k1', k2', k3', k4', k5', k6', o0, o1, o2, l1, l2, z1, z2, z3, z4, z5, hD1, St.get_put_same] <;> omega)); clear hA hB A B))
          | (refine RQ.nl ?_; refine hk _ _ ?_; clear hk k)
          | refine WP.sr fun k hk => ?_ | refine WP.r fun k hk => ?_
          | refine WP.sd _ rfl fun k hk => ?_ | refine WP.d _ rfl fun k hk => ?_
          | (refine WP.cc fun A B hA hB => ?_; simp [hrot, hsym, gRot, gSym, g0, g1, g2, g3, g4, g18, g19, g20, g21, g22, hlti, hid, hl, e24, k1', k2', k3', k4', k5', k6', o0, o1, o2, l1, l2, z1, z2, z3, z4, z5, hD1, St.get_put_same, onB_t, onB_f]; first | (refine hA ?_; clear hA hB A B) | (refine hB ?_; clear hA hB A B) | (refine onB_if (fun h => hA ?_) (fun h => hB ?_) <;> clear hA hB A B))
          | refine WP.q ?_ | refine WP.b ?_)
        simp only [St.put_put]
        exact finRow (.inl rfl) hid rfl
  · rw [if_neg hmm] at hi0 hj0
    have hj0' : (m : Int) = (j0 : Int) := by omega
    have c6' : (a : Int) = (i0 : Int) := by omega
    have hmi : ¬ (mid : Int) < (m : Int) := by omega
    unfold symS at hst
    rw [hpp] at hst
    repeat' (first
      | refine WP.t ?_ | refine WP.k ?_ | refine WP.e ?_ | refine Qn ?_ | refine Qr ?_ | refine Qe ?_ | refine Bn ?_ | refine Br ?_ | refine Be ?_ | refine Bx (by decide) ?_
      | (refine RS.nl ?_; refine hk _ _ ?_; clear hk k)
      | ((first | refine RS.st fun A B hA hB => ?_ | refine RQ.st fun A B hA hB => ?_); simp [w0, w0', w1, w1', c1, c2, c3, c4, c5, c7, hmi, ti130, ti3, aconv, aconvert, ashift, IntKind.bits, onW_t, onW_f, onV_s]; first | ((first | refine hA _ _ _ ?_ ?_ | refine hA _ _ _ ?_ (by first | exact .inl rfl | exact .inr (by decide)) ?_); (focus (simp [w0, w0', w1, w1', c1, c2, c3, c4, c5, c7, hmi, ti130, ti3, aconv, aconvert, ashift, IntKind.bits] <;> omega)); clear hA hB A B) | (refine hB ?_; clear hA hB A B) | (refine onV_if ?_ ?_; (focus (first | omega | (refine ⟨?_, ?_⟩ <;> omega))); simp only [onV_s]; (first | refine hA _ _ _ ?_ ?_ | refine hA _ _ _ ?_ (by first | exact .inl rfl | exact .inr (by decide)) ?_); (focus (simp [w0, w0', w1, w1', c1, c2, c3, c4, c5, c7, hmi, ti130, ti3, aconv, aconvert, ashift, IntKind.bits] <;> omega)); clear hA hB A B))
      | (refine RQ.nl ?_; refine hk _ _ ?_; clear hk k)
      | refine WP.sr fun k hk => ?_ | refine WP.r fun k hk => ?_
      | refine WP.sd _ rfl fun k hk => ?_ | refine WP.d _ rfl fun k hk => ?_
      | (refine WP.cc fun A B hA hB => ?_; simp [w0, w0', w1, w1', c1, c2, c3, c4, c5, c7, hmi, ti130, ti3, aconv, aconvert, ashift, IntKind.bits, onB_t, onB_f]; first | (refine hA ?_; clear hA hB A B) | (refine hB ?_; clear hA hB A B) | (refine onB_if (fun h => hA ?_) (fun h => hB ?_) <;> clear hA hB A B))
      | refine WP.q ?_ | refine WP.b ?_)
    refine WP_loop (fun q T s' => ∃ (i j : Nat), q = j - i ∧ i0 ≤ i ∧ i ≤ j ∧ j ≤ j0 ∧ s' = s.put id (rowO D) ∧ (∃ n, j - i ≤ n ∧ bs (fun c => !decide (cmpT (gD D (pp - c)) (gD D c) < 0)) n i j = st) ∧ T.get 0 = .ls id 0 D.length ∧ T.get 1 = .int .i64 a ∧ T.get 2 = .int .i64 m ∧ T.get 3 = .int .i64 b ∧ T.get 4 = .fn (.func 60) [] [] ∧ T.get 18 = .int .i64 mid ∧ T.get 19 = .int .i64 nn ∧ T.get 22 = .int .i64 pp ∧ T.get 20 = .int .i64 i ∧ T.get 21 = .int .i64 j)
      (j0 - i0) ⟨i0, j0, rfl, Nat.le_refl _, by omega, Nat.le_refl _, (St.put_self hs).symm, ⟨_, Nat.le_refl _, hst⟩, by simp, by simp, by simp, by simp, by simp, by simp, by simp, by simp, by simp [c6'], by simp [hj0']⟩ ?_
    rintro q T s' ⟨i, j, hqq, hai, hij, hjb, rfl, ⟨n, hn, hbs⟩, g0, g1, g2, g3, g4, g18, g19, g22, g20, g21⟩
    by_cases hlt : i < j
    · have hlti : (i : Int) < (j : Int) := by omega
      obtain ⟨n, rfl⟩ : ∃ r, n = r + 1 := ⟨n - 1, by omega⟩
      generalize hdd : (i + j) / 2 = d at *
      have d1 : IntKind.i64.wrap ((i : Int) + (j : Int)) = (i : Int) + (j : Int) := wrap64 (by omega) (by omega)
      have d2 : IntKind.u64.wrap ((i : Int) + (j : Int)) = (i : Int) + (j : Int) := wrapu (by omega) (by omega)
      have d3 : ((i : Int) + (j : Int)).fdiv 2 = (d : Int) := by rw [Int.fdiv_eq_ediv_of_nonneg _ (by omega)]; omega
      have d4 : IntKind.i64.wrap (d : Int) = (d : Int) := wrap64 (by omega) (by omega)
      have d5 : IntKind.i64.wrap ((d : Int) + 1) = (d : Int) + 1 := wrap64 (by omega) (by omega)
      have i1 : d < D.length := by omega
      have hpd : d ≤ pp := by omega
      have i2 : pp - d < D.length := by omega
      have d6 : IntKind.i64.wrap ((pp : Int) - (d : Int)) = ((pp - d : Nat) : Int) := by rw [wrap64 (by omega) (by omega)]; omega
      have p1 : (d : Int) < (D.length : Int) := by omega
      have p2 : ((pp - d : Nat) : Int) < (D.length : Int) := by omega
      have hx := encD_get i1
      have hy := encD_get i2
      have ox := hok _ (List.getElem_mem i1)
      have oy := hok _ (List.getElem_mem i2)
      have e1 := gD_of i1
      have e2 := gD_of i2
      have p3 : 0 < K := hK
      by_cases hc : cmpT (gD D (pp - d)) (gD D d) < 0
      · rw [bs_no hlt (by rw [hdd]; simp [hc]), hdd] at hbs
        rw [e1, e2] at hc
        generalize hpdd : pp - d = pd at *
        generalize D[d] = x at *
        generalize D[pd] = y at *
        have rwx : Rw x = [.sl (x.map V.cs)] := rfl
        have rwy : Rw y = [.sl (y.map V.cs)] := rfl
        have hcm := hcmp y x (s.put id (rowO D)) oy ox
        repeat' (first
          | refine WP.t ?_ | refine WP.k ?_ | refine WP.e ?_ | refine Qn ?_ | refine Qr ?_ | refine Qe ?_ | refine Bn ?_ | refine Br ?_ | refine Be ?_ | refine Bx (by decide) ?_
          | (refine RS.nl ?_; refine hk _ _ ?_; clear hk k)
          | ((first | refine RS.st fun A B hA hB => ?_ | refine RQ.st fun A B hA hB => ?_); simp [hcm, g0, g1, g2, g3, g4, g18, g19, g20, g21, g22, hlti, d1, d2, d3, d4, d5, d6, p1, p2, p3, hx, hy, rwx, rwy, hc, ti36, ti33, ti130, ti3, elemOfT, aindex, aconv, aconvert, ashift, IntKind.bits, aunop, St.get_put_same, onW_t, onW_f, onV_s]; first | ((first | refine hA _ _ _ ?_ ?_ | refine hA _ _ _ ?_ (by first | exact .inl rfl | exact .inr (by decide)) ?_); (focus (simp [hcm, g0, g1, g2, g3, g4, g18, g19, g20, g21, g22, hlti, d1, d2, d3, d4, d5, d6, p1, p2, p3, hx, hy, rwx, rwy, hc, ti36, ti33, ti130, ti3, elemOfT, aindex, aconv, aconvert, ashift, IntKind.bits, aunop, St.get_put_same] <;> omega)); clear hA hB A B) | (refine hB ?_; clear hA hB A B) | (refine onV_if ?_ ?_; (focus (first | omega | (refine ⟨?_, ?_⟩ <;> omega))); simp only [onV_s]; (first | refine hA _ _ _ ?_ ?_ | refine hA _ _ _ ?_ (by first | exact .inl rfl | exact .inr (by decide)) ?_); (focus (simp [hcm, g0, g1, g2, g3, g4, g18, g19, g20, g21, g22, hlti, d1, d2, d3, d4, d5, d6, p1, p2, p3, hx, hy, rwx, rwy, hc, ti36, ti33, ti130, ti3, elemOfT, aindex, aconv, aconvert, ashift, IntKind.bits, aunop, St.get_put_same] <;> omega)); clear hA hB A B))
          | (refine RQ.nl ?_; refine hk _ _ ?_; clear hk k)
          | refine WP.sr fun k hk => ?_ | refine WP.r fun k hk => ?_
          | refine WP.sd _ rfl fun k hk => ?_ | refine WP.d _ rfl fun k hk => ?_
          | (refine WP.cc fun A B hA hB => ?_; simp [hcm, g0, g1, g2, g3, g4, g18, g19, g20, g21, g22, hlti, d1, d2, d3, d4, d5, d6, p1, p2, p3, hx, hy, rwx, rwy, hc, ti36, ti33, ti130, ti3, elemOfT, aindex, aconv, aconvert, ashift, IntKind.bits, aunop, St.get_put_same, onB_t, onB_f]; first | (refine hA ?_; clear hA hB A B) | (refine hB ?_; clear hA hB A B) | (refine onB_if (fun h => hA ?_) (fun h => hB ?_) <;> clear hA hB A B))
          | refine WP.q ?_ | refine WP.b ?_)
        exact ⟨d - i, by omega, i, d, rfl, hai, by omega, by omega, rfl, ⟨n, by omega, hbs⟩, by simp [g0], by simp [g1], by simp [g2], by simp [g3], by simp [g4], by simp [g18], by simp [g19], by simp [g22], by simp [g20], by simp⟩
      · rw [bs_yes hlt (by rw [hdd]; simp [hc]), hdd] at hbs
        rw [e1, e2] at hc
        generalize hpdd : pp - d = pd at *
        generalize D[d] = x at *
        generalize D[pd] = y at *
        have rwx : Rw x = [.sl (x.map V.cs)] := rfl
        have rwy : Rw y = [.sl (y.map V.cs)] := rfl
        have hcm := hcmp y x (s.put id (rowO D)) oy ox
        repeat' (first
          | refine WP.t ?_ | refine WP.k ?_ | refine WP.e ?_ | refine Qn ?_ | refine Qr ?_ | refine Qe ?_ | refine Bn ?_ | refine Br ?_ | refine Be ?_ | refine Bx (by decide) ?_
          | (refine RS.nl ?_; refine hk _ _ ?_; clear hk k)
          | ((first | refine RS.st fun A B hA hB => ?_ | refine RQ.st fun A B hA hB => ?_); simp [hcm, g0, g1, g2, g3, g4, g18, g19, g20, g21, g22, hlti, d1, d2, d3, d4, d5, d6, p1, p2, p3, hx, hy, rwx, rwy, hc, ti36, ti33, ti130, ti3, elemOfT, aindex, aconv, aconvert, ashift, IntKind.bits, aunop, St.get_put_same, onW_t, onW_f, onV_s]; first | ((first | refine hA _ _ _ ?_ ?_ | refine hA _ _ _ ?_ (by first | exact .inl rfl | exact .inr (by decide)) ?_); (focus (simp [hcm, g0, g1, g2, g3, g4, g18, g19, g20, g21, g22, hlti, d1, d2, d3, d4, d5, d6, p1, p2, p3, hx, hy, rwx, rwy, hc, ti36, ti33, ti130, ti3, elemOfT, aindex, aconv, aconvert, ashift, IntKind.bits, aunop, St.get_put_same] <;> omega)); clear hA hB A B) | (refine hB ?_; clear hA hB A B) | (refine onV_if ?_ ?_; (focus (first | omega | (refine ⟨?_, ?_⟩ <;> omega))); simp only [onV_s]; (first | refine hA _ _ _ ?_ ?_ | refine hA _ _ _ ?_ (by first | exact .inl rfl | exact .inr (by decide)) ?_); (focus (simp [hcm, g0, g1, g2, g3, g4, g18, g19, g20, g21, g22, hlti, d1, d2, d3, d4, d5, d6, p1, p2, p3, hx, hy, rwx, rwy, hc, ti36, ti33, ti130, ti3, elemOfT, aindex, aconv, aconvert, ashift, IntKind.bits, aunop, St.get_put_same] <;> omega)); clear hA hB A B))
          | (refine RQ.nl ?_; refine hk _ _ ?_; clear hk k)
          | refine WP.sr fun k hk => ?_ | refine WP.r fun k hk => ?_
          | refine WP.sd _ rfl fun k hk => ?_ | refine WP.d _ rfl fun k hk => ?_
          | (refine WP.cc fun A B hA hB => ?_; simp [hcm, g0, g1, g2, g3, g4, g18, g19, g20, g21, g22, hlti, d1, d2, d3, d4, d5, d6, p1, p2, p3, hx, hy, rwx, rwy, hc, ti36, ti33, ti130, ti3, elemOfT, aindex, aconv, aconvert, ashift, IntKind.bits, aunop, St.get_put_same, onB_t, onB_f]; first | (refine hA ?_; clear hA hB A B) | (refine hB ?_; clear hA hB A B) | (refine onB_if (fun h => hA ?_) (fun h => hB ?_) <;> clear hA hB A B))
          | refine WP.q ?_ | refine WP.b ?_)
        exact ⟨j - (d + 1), by omega, d + 1, j, rfl, by omega, by omega, hjb, rfl, ⟨n, by omega, hbs⟩, by simp [g0], by simp [g1], by simp [g2], by simp [g3], by simp [g4], by simp [g18], by simp [g19], by simp [g22], by simp, by simp [g21]⟩
    · have hlti : ¬ (i : Int) < (j : Int) := by omega
      rw [bs_end hlt] at hbs
      subst hbs
      have e24 : IntKind.i64.wrap ((nn : Int) - (i : Int)) = ((nn - i : Nat) : Int) := by rw [wrap64 (by omega) (by omega)]; omega
      generalize hen : nn - i = en at *
      have o0 := okB_iff.2 hok
      have o1 : okB (rotF m (en - i) (m - i) (en - m) D) = true := okB_iff.2 (rotF_ok m _ _ _ hok)
      have l1 : (rotF m (en - i) (m - i) (en - m) D).length = D.length := rotF_length m _ _ _ _
      generalize hD1 : rotF m (en - i) (m - i) (en - m) D = R1 at *
      have o2 : ∀ X : Rows0, okB X = true → okB (symF qn a i mid X) = true := fun X h => okB_iff.2 (symF_ok _ _ _ _ (okB_iff.1 h))
      have l2 : ∀ X : Rows0, (symF qn a i mid X).length = X.length := fun X => symF_length _ _ _ _ _
      have enb : en ≤ b := by omega
      have z1 : (mid : Int) - (a : Int) ≤ (qn : Int) := by omega
      have z2 : (b : Int) - (mid : Int) ≤ (qn : Int) := by omega
      have z3 : (mid : Int) ≤ (D.length : Int) := by omega
      have z4 : (b : Int) ≤ (D.length : Int) := by omega
      have z5 : (en : Int) ≤ (D.length : Int) := by omega
      by_cases k1 : i < m <;> by_cases k2 : i < mid <;> by_cases k3 : a < i <;> by_cases k6 : en < b
      all_goals
        have k1' : (i : Int) < (m : Int) ↔ i < m := by omega
        have k2' : (i : Int) < (mid : Int) ↔ i < mid := by omega
        have k3' : (a : Int) < (i : Int) ↔ a < i := by omega
        have k6' : (en : Int) < (b : Int) ↔ en < b := by omega
        have k4' : (m : Int) < (en : Int) ↔ i < mid := by omega
        have k5' : (mid : Int) < (en : Int) ↔ i < m := by omega
        have k4'' : m < en ↔ i < mid := by omega
        have k5'' : mid < en ↔ i < m := by omega
        simp only [k4'', k5'']
        simp only [k1, k2, k3, k6, iff_true, iff_false] at k1' k2' k3' k4' k5' k6'
        simp only [k1, k2, k3, k6, and_self, and_true, true_and, and_false, false_and, if_true, if_false]
        repeat' (first
          | refine WP.t ?_ | refine WP.k ?_ | refine WP.e ?_ | refine Qn ?_ | refine Qr ?_ | refine Qe ?_ | refine Bn ?_ | refine Br ?_ | refine Be ?_ | refine Bx (by decide) ?_
          | (refine RS.nl ?_; refine hk _ _ ?_; clear hk k)
          | ((first | refine RS.st fun A B hA hB => ?_ | refine RQ.st fun A B hA hB => ?_); simp [hrot, hsym, gRot, gSym, g0, g1, g2, g3, g4, g18, g19, g20, g21, g22, hlti, hid, hl, e24, k1', k2', k3', k4', k5', k6', o0, o1, o2, l1, l2, z1, z2, z3, z4, z5, hD1, St.get_put_same, onW_t, onW_f, onV_s]; first | ((first | refine hA _ _ _ ?_ ?_ | refine hA _ _ _ ?_ (by first | exact .inl rfl | exact .inr (by decide)) ?_); (focus (simp [hrot, hsym, gRot, gSym, g0, g1, g2, g3, g4, g18, g19, g20, g21, g22, hlti, hid, hl, e24, k1', k2', k3', k4', k5', k6', o0, o1, o2, l1, l2, z1, z2, z3, z4, z5, hD1, St.get_put_same] <;> omega)); clear hA hB A B) | (refine hB ?_; clear hA hB A B) | (refine onV_if ?_ ?_; (focus (first | omega | (refine ⟨?_, ?_⟩ <;> omega))); simp only [onV_s]; (first | refine hA _ _ _ ?_ ?_ | refine hA _ _ _ ?_ (by first | exact .inl rfl | exact .inr (by decide)) ?_); (focus (simp [hrot, hsym, gRot, gSym, g0, g1, g2, g3, g4, g18, g19, g20, g21, g22, hlti, hid, hl, e24, k1', k2', k3', k4', k5', k6', o0, o1, o2, l1, l2, z1, z2, z3, z4, z5, hD1, St.get_put_same] <;> omega)); clear hA hB A B))
          | (refine RQ.nl ?_; refine hk _ _ ?_; clear hk k)
          | refine WP.sr fun k hk => ?_ | refine WP.r fun k hk => ?_
          | refine WP.sd _ rfl fun k hk => ?_ | refine WP.d _ rfl fun k hk => ?_
          | (refine WP.cc fun A B hA hB => ?_; simp [hrot, hsym, gRot, gSym, g0, g1, g2, g3, g4, g18, g19, g20, g21, g22, hlti, hid, hl, e24, k1', k2', k3', k4', k5', k6', o0, o1, o2, l1, l2, z1, z2, z3, z4, z5, hD1, St.get_put_same, onB_t, onB_f]; first | (refine hA ?_; clear hA hB A B) | (refine hB ?_; clear hA hB A B) | (refine onB_if (fun h => hA ?_) (fun h => hB ?_) <;> clear hA hB A B))
          | refine WP.q ?_ | refine WP.b ?_)
        simp only [St.put_put]
        exact finRow (.inl rfl) hid rfl
theorem bs_le (p : Nat → Bool) : ∀ (n i j : Nat), i ≤ j → i ≤ bs p n i j ∧ bs p n i j ≤ j
  | 0, i, j, h => ⟨Nat.le_refl _, h⟩
  | n + 1, i, j, h => by
    unfold bs
    split
    · split
      · have := bs_le p n ((i + j) / 2 + 1) j (by omega); omega
      · have := bs_le p n i ((i + j) / 2) (by omega); omega
    · exact ⟨Nat.le_refl _, h⟩
def fSym (q : Nat) : Fns := S2.add 73 (gSym q)
theorem fSym_ok (hK : 0 < K) (hT : Tens gw) : ∀ q, FOk (env K gw) (fSym q) := by
  intro q
  induction q with
  | zero =>
    refine (S2_ok hK hT).add fun xs s r s' l h => ?_
    unfold gSym at h
    split at h
    · split at h
      · split at h
        · split at h
          · split at h
            · rename_i hc
              obtain ⟨_, ⟨h1, h2, h3, h4, h5⟩, _⟩ := hc
              omega
            · cases h
          · cases h
        · cases h
      · cases h
    · cases h
  | succ q ih =>
    refine (S2_ok hK hT).add fun xs s r s' l h => ?_
    unfold gSym at h
    split at h
    · rename_i id n a m b
      split at h
      · rename_i hid
        split at h
        · rename_i hs
          split at h
          · rename_i D hD
            split at h
            · rename_i hc
              cases h
              obtain ⟨⟨rfl, hl⟩, ⟨h1, h2, h3, h4, h5⟩, h6⟩ := hc
              rw [decD_eq hD] at hs
              obtain ⟨a, rfl⟩ : ∃ q : Nat, a = q := ⟨a.toNat, (Int.toNat_of_nonneg h1).symm⟩
              obtain ⟨m, rfl⟩ : ∃ q : Nat, m = q := ⟨m.toNat, (Int.toNat_of_nonneg (by omega)).symm⟩
              obtain ⟨b, rfl⟩ : ∃ q : Nat, b = q := ⟨b.toNat, (Int.toNat_of_nonneg (by omega)).symm⟩
              have hcmp : ∀ (x y : List V) (s : St), x.length < LIM → y.length < LIM → fSym q 60 [.sl (x.map V.cs), .sl (y.map V.cs)] s = some (.int .i64 (cmpT x y), s, []) := fun x y s hx hy => by
                simp [fSym, S2, S1, F12, F12, F11, F10, F9, F8, F7, F6, F5, F4, Fns.add, Fns.addP, pCmpT, hx, hy]
              have hrot : ∀ xs s, fSym q 82 xs s = gRot xs s := fun xs s => by simp [fSym, S2, Fns.add]
              have hsym : ∀ xs s, fSym q 73 xs s = gSym q xs s := fun xs s => by simp [fSym, Fns.add]
              have hok := okB_iff.1 h6
              show FT (env K gw) _ 73 _ s _ (s.put id (rowO (symF (q + 1) a m b D)))
              by_cases e1 : m = a + 1
              · subst e1
                by_cases e0 : a + 1 < b
                · have := ft64a hK hT (fSym q) ih hcmp D hid hs a b e0 (by omega) hl hok
                  unfold symF
                  rw [if_pos rfl]
                  exact this
                · omega
              · by_cases e2 : b = m + 1
                · subst e2
                  have := ft64b hK hT (fSym q) ih hcmp D hid hs a m (by omega) (by omega) hl hok
                  unfold symF
                  rw [if_neg e1, if_pos rfl]
                  exact this
                · exact ft64c hK hT (fSym q) ih q hcmp hrot hsym D hid hs a m b (by omega) (by omega) (by omega) hl (by omega) hok
            · cases h
          · cases h
        · cases h
      · cases h
    · cases h
end
end Go.Am
namespace Go.Am
open Go.Proofs
def stB1 (n : Nat) : Nat → Nat → Rows0 → Rows0
  | 0, _, D => D
  | c + 1, a, D => if a + 20 ≤ n then stB1 n c (a + 20) (insertion a (a + 20) D) else insertion a n D
def merB (n z : Nat) : Nat → Nat → Rows0 → Rows0
  | 0, _, D => D
  | c + 1, a, D => if a + 2 * z ≤ n then merB n z c (a + 2 * z) (symF n a (a + z) (a + 2 * z) D) else if a + z < n then symF n a (a + z) n D else D
def stB2 (n : Nat) : Nat → Nat → Rows0 → Rows0
  | 0, _, D => D
  | c + 1, z, D => if z < n then stB2 n c (2 * z) (merB n z (n + 1) 0 D) else D
def stable (D : Rows0) : Rows0 := stB2 D.length (D.length + 1) 20 (stB1 D.length (D.length + 1) 0 D)
theorem insertion_length (a b : Nat) (D : Rows0) : (insertion a b D).length = D.length := insA_length _ _ _ _
theorem insertion_ok (a b : Nat) {D : Rows0} (h : okD D) : okD (insertion a b D) := insA_ok _ _ h
theorem merB_inv (n z : Nat) {P : Rows0 → Prop} (hP : ∀ a m b D, P D → P (symF n a m b D)) : ∀ (c a : Nat) {D : Rows0}, P D → P (merB n z c a D)
  | 0, _, _, h => h
  | c + 1, a, D, h => by
    unfold merB
    split
    · exact merB_inv n z hP c _ (hP _ _ _ _ h)
    · split
      · exact hP _ _ _ _ h
      · exact h
section
variable {K : Nat} {gw : World} {s : St}
attribute [local simp] awanted xop zOf zrow aop ev T0 Slots.put Slots.set Slots.get awr WOk AV.may ofConst abinop aint isConst St.get_push St.get_put St.live AV.fit AV.cells AV.one fieldOf afieldAddr aload ofCells astore splice May eqres env_ti FinP FinZ FinW ares aresL ares1 Fns.addP Fns.add Fns.a0 Fns.a1 Fns.a2 Fns.a3 Fns.a4 abuiltin alenOk alen aindex elemOfT elemId abuildSlice afill chunks ard aappend isSS AV.isStr aminmax placesOf abuild afield aidx isStrD isStrDesc astrop aslice asliceOk abound arange anext aextract aunop aeq AV.ck avseq aveq aconv aconvert onB_t onB_f List.range_succ ti0 ti1 ti2 ti3 ti4 ti5 ti6 ti7 ti8 ti9 ti10 ti11 ti12 ti13 ti14 ti15 ti16 ti17 ti18 ti19 ti20 ti21 ti22 ti23 ti24 ti25 ti26 ti27 ti28 ti29 ti30 ti31 ti32 ti33 ti34 ti35 ti36 ti37 ti38 ti39 ti40 ti41 ti42 ti43 ti44 ti45 ti46 ti47 ti48 ti49 ti50 ti51 ti52 ti53 ti54 ti55 ti56 ti57 ti58 ti59 ti60 ti61 ti62 ti63 ti64 ti65 ti66 ti67 ti68 ti69 ti70 ti71 ti72 ti73 ti74 ti75 ti76 ti77 ti78 ti79 ti80 ti81 ti82 ti83 ti84 ti85 ti86 ti87 ti88 ti89 ti90 ti91 ti92 ti93 ti94 ti95 ti96 ti97 ti98 ti99 ti100 ti101 ti102 ti103 ti104 ti105 ti106 ti107 ti108 ti109 ti110 ti111 ti112 ti113 ti114 ti115 ti116 ti117 ti118 ti119 ti120 ti121 ti122 ti123 ti124 ti125 ti126 ti127 ti128 ti129 ti130 ti131 ti132 ti133 ti134 ti135 ti136 ti137 ti138 ti139 ti140 ti141 ti142 ti143 ti144 ti145 ti146 ti147
set_option maxRecDepth 20000 in
set_option maxHeartbeats 16000000 in
theorem ft50 (hK : 0 < K) (hT : Tens gw) {id : Nat} (D : Rows0) (hid : id < s.nx) (hs : s.get id = some (rowO D)) (hl : D.length < 268435456) (hok : okD D) :
    FT (env K gw) (fun i => i ∈ [id]) 65 [.ls id 0 D.length, .int .i64 D.length, .fn (.func 60) [] []] s (.tup []) (s.put id (rowO (stable D))) := by
  refine FT.own (fn := Tryd.f65) (fSym_ok hK hT D.length) mixed Tryd.func65 (by kernel_rfl) (by rfl) rfl rfl (by simp) (by kernel_rfl) fun μ w => ?_
  generalize hn : List.length D = n at *
  have hins : ∀ xs s, fSym n 72 xs s = gIns xs s := fun xs s => by simp [fSym, S2, S1, Fns.add]
  have hsym : ∀ xs s, fSym n 73 xs s = gSym n xs s := fun xs s => by simp [fSym, Fns.add]
  have hstb : stB2 n (n + 1) 20 (stB1 n (n + 1) 0 D) = stable D := by unfold stable; rw [hn]
  generalize stable D = R at *
  have hl2 : n < 1073741824 := by omega
  repeat' (first
    | refine WP.t ?_ | refine WP.k ?_ | refine WP.e ?_ | refine Qn ?_ | refine Qr ?_ | refine Qe ?_ | refine Bn ?_ | refine Br ?_ | refine Be ?_ | refine Bx (by decide) ?_
    | (refine RS.nl ?_; refine hk _ _ ?_; clear hk k)
    | ((first | refine RS.st fun A B hA hB => ?_ | refine RQ.st fun A B hA hB => ?_); simp [hins, onW_t, onW_f, onV_s]; first | ((first | refine hA _ _ _ ?_ ?_ | refine hA _ _ _ ?_ (by first | exact .inl rfl | exact .inr (by decide)) ?_); (focus (simp [hins] <;> omega)); clear hA hB A B) | (refine hB ?_; clear hA hB A B) | (refine onV_if ?_ ?_; (focus (first | omega | (refine ⟨?_, ?_⟩ <;> omega))); simp only [onV_s]; (first | refine hA _ _ _ ?_ ?_ | refine hA _ _ _ ?_ (by first | exact .inl rfl | exact .inr (by decide)) ?_); (focus (simp [hins] <;> omega)); clear hA hB A B))
    | (refine RQ.nl ?_; refine hk _ _ ?_; clear hk k)
    | refine WP.sr fun k hk => ?_ | refine WP.r fun k hk => ?_
    | refine WP.sd _ rfl fun k hk => ?_ | refine WP.d _ rfl fun k hk => ?_
    | (refine WP.cc fun A B hA hB => ?_; simp [hins, onB_t, onB_f]; first | (refine hA ?_; clear hA hB A B) | (refine hB ?_; clear hA hB A B) | (refine onB_if (fun h => hA ?_) (fun h => hB ?_) <;> clear hA hB A B))
    | refine WP.q ?_ | refine WP.b ?_)
  refine WP_loop (fun q T s' => ∃ (a c : Nat) (D1 : Rows0), q = n + 20 - (a + 20) ∧ a ≤ n ∧ n - a < c ∧ s' = s.put id (rowO D1) ∧ D1.length = n ∧ okD D1 ∧ stB2 n (n + 1) 20 (stB1 n c a D1) = R ∧ T.get 0 = .ls id 0 n ∧ T.get 1 = .int .i64 n ∧ T.get 2 = .fn (.func 60) [] [] ∧ T.get 6 = .int .i64 20 ∧ T.get 7 = .int .i64 a ∧ T.get 8 = .int .i64 ((a + 20 : Nat) : Int))
    n ⟨0, n + 1, D, by omega, by omega, by omega, (St.put_self hs).symm, hn, hok, hstb, by simp, by simp, by simp, by simp, by simp, by simp⟩ ?_
  rintro q T s' ⟨a, c, D1, hq, han, hac, rfl, hD1, hok1, hst, g0, g1, g2, g6, g7, g8⟩
  obtain ⟨c, rfl⟩ : ∃ r, c = r + 1 := ⟨c - 1, by omega⟩
  have hD1' : n = D1.length := hD1.symm
  have hl3 : D1.length < 1073741824 := by omega
  have ob : (D1.all fun t => decide (t.length < LIM)) = true := okD_all.2 hok1
  by_cases ha : a + 20 ≤ n
  · have hai : (a : Int) + 20 ≤ (n : Int) := by omega
    have hst' : stB2 n (n + 1) 20 (stB1 n c (a + 20) (insertion a (a + 20) D1)) = R := by
      rw [← hst]
      conv => rhs; arg 4; unfold stB1
      rw [if_pos ha]
    have b1 : (a : Int) < 1073741824 := by omega
    have b2 : 0 ≤ (a : Int) + 20 := by omega
    have b3 : (a : Int) + 20 ≤ (D1.length : Int) := by omega
    have b4 : ((a : Int) + 20).toNat = a + 20 := by omega
    have w1 : IntKind.i64.wrap ((a : Int) + 20 + 20) = (a : Int) + 20 + 20 := wrap64 (by omega) (by omega)
    repeat' (first
      | refine WP.t ?_ | refine WP.k ?_ | refine WP.e ?_ | refine Qn ?_ | refine Qr ?_ | refine Qe ?_ | refine Bn ?_ | refine Br ?_ | refine Be ?_ | refine Bx (by decide) ?_
      | (refine RS.nl ?_; refine hk _ _ ?_; clear hk k)
      | ((first | refine RS.st fun A B hA hB => ?_ | refine RQ.st fun A B hA hB => ?_); simp [hins, gIns, g0, g1, g2, g6, g7, g8, hai, ha, b1, b2, b3, b4, w1, hid, hD1, hl2, ob, St.get_put_same, onW_t, onW_f, onV_s]; first | ((first | refine hA _ _ _ ?_ ?_ | refine hA _ _ _ ?_ (by first | exact .inl rfl | exact .inr (by decide)) ?_); (focus (simp [hins, gIns, g0, g1, g2, g6, g7, g8, hai, ha, b1, b2, b3, b4, w1, hid, hD1, hl2, ob, St.get_put_same] <;> omega)); clear hA hB A B) | (refine hB ?_; clear hA hB A B) | (refine onV_if ?_ ?_; (focus (first | omega | (refine ⟨?_, ?_⟩ <;> omega))); simp only [onV_s]; (first | refine hA _ _ _ ?_ ?_ | refine hA _ _ _ ?_ (by first | exact .inl rfl | exact .inr (by decide)) ?_); (focus (simp [hins, gIns, g0, g1, g2, g6, g7, g8, hai, ha, b1, b2, b3, b4, w1, hid, hD1, hl2, ob, St.get_put_same] <;> omega)); clear hA hB A B))
      | (refine RQ.nl ?_; refine hk _ _ ?_; clear hk k)
      | refine WP.sr fun k hk => ?_ | refine WP.r fun k hk => ?_
      | refine WP.sd _ rfl fun k hk => ?_ | refine WP.d _ rfl fun k hk => ?_
      | (refine WP.cc fun A B hA hB => ?_; simp [hins, gIns, g0, g1, g2, g6, g7, g8, hai, ha, b1, b2, b3, b4, w1, hid, hD1, hl2, ob, St.get_put_same, onB_t, onB_f]; first | (refine hA ?_; clear hA hB A B) | (refine hB ?_; clear hA hB A B) | (refine onB_if (fun h => hA ?_) (fun h => hB ?_) <;> clear hA hB A B))
      | refine WP.q ?_ | refine WP.b ?_)
    refine ⟨n - (a + 20), by omega, a + 20, c, insertion a (a + 20) D1, by omega, ha, by omega, by rw [St.put_put], by rw [insertion_length]; exact hD1, insertion_ok _ _ hok1, hst', by simp [g0], by simp [g1], by simp [g2], by simp [g6], by simp, by simp⟩
  · have hai : ¬ (a : Int) + 20 ≤ (n : Int) := by omega
    have hst' : stB2 n (n + 1) 20 (insertion a n D1) = R := by
      rw [← hst]
      conv => rhs; arg 4; unfold stB1
      rw [if_neg ha]
    have b1 : (a : Int) < 1073741824 := by omega
    have b2 : (n : Int) ≤ (D1.length : Int) := by omega
    have b3 : 0 ≤ (n : Int) := by omega
    repeat' (first
      | refine WP.t ?_ | refine WP.k ?_ | refine WP.e ?_ | refine Qn ?_ | refine Qr ?_ | refine Qe ?_ | refine Bn ?_ | refine Br ?_ | refine Be ?_ | refine Bx (by decide) ?_
      | (refine RS.nl ?_; refine hk _ _ ?_; clear hk k)
      | ((first | refine RS.st fun A B hA hB => ?_ | refine RQ.st fun A B hA hB => ?_); simp [hins, gIns, g0, g1, g2, g6, g7, g8, hai, ha, hid, hD1, hl2, ob, St.get_put_same, b1, b2, b3, onW_t, onW_f, onV_s]; first | ((first | refine hA _ _ _ ?_ ?_ | refine hA _ _ _ ?_ (by first | exact .inl rfl | exact .inr (by decide)) ?_); (focus (simp [hins, gIns, g0, g1, g2, g6, g7, g8, hai, ha, hid, hD1, hl2, ob, St.get_put_same, b1, b2, b3] <;> omega)); clear hA hB A B) | (refine hB ?_; clear hA hB A B) | (refine onV_if ?_ ?_; (focus (first | omega | (refine ⟨?_, ?_⟩ <;> omega))); simp only [onV_s]; (first | refine hA _ _ _ ?_ ?_ | refine hA _ _ _ ?_ (by first | exact .inl rfl | exact .inr (by decide)) ?_); (focus (simp [hins, gIns, g0, g1, g2, g6, g7, g8, hai, ha, hid, hD1, hl2, ob, St.get_put_same, b1, b2, b3] <;> omega)); clear hA hB A B))
      | (refine RQ.nl ?_; refine hk _ _ ?_; clear hk k)
      | refine WP.sr fun k hk => ?_ | refine WP.r fun k hk => ?_
      | refine WP.sd _ rfl fun k hk => ?_ | refine WP.d _ rfl fun k hk => ?_
      | (refine WP.cc fun A B hA hB => ?_; simp [hins, gIns, g0, g1, g2, g6, g7, g8, hai, ha, hid, hD1, hl2, ob, St.get_put_same, b1, b2, b3, onB_t, onB_f]; first | (refine hA ?_; clear hA hB A B) | (refine hB ?_; clear hA hB A B) | (refine onB_if (fun h => hA ?_) (fun h => hB ?_) <;> clear hA hB A B))
      | refine WP.q ?_ | refine WP.b ?_)
    generalize hD2 : insertion a n D1 = D2 at *
    have l2 : D2.length = n := by rw [← hD2, insertion_length]; exact hD1
    have ok2 : okD D2 := by rw [← hD2]; exact insertion_ok _ _ hok1
    refine WP_loop (fun q T s' => ∃ (z c : Nat) (D3 : Rows0), q = n + n - z ∧ 0 < z ∧ z ≤ n + n + 40 ∧ n - z < c ∧ s' = s.put id (rowO D3) ∧ D3.length = n ∧ okD D3 ∧ stB2 n c z D3 = R ∧ T.get 0 = .ls id 0 n ∧ T.get 1 = .int .i64 n ∧ T.get 2 = .fn (.func 60) [] [] ∧ T.get 6 = .int .i64 z)
      (n + n - 20) ⟨20, n + 1, D2, rfl, by omega, by omega, by omega, by rw [St.put_put], l2, ok2, hst', by simp [g0], by simp [g1], by simp [g2], by simp [g6]⟩ ?_
    rintro q2 T2 s2 ⟨z, c2, D3, hq2, hz0, hzn, hzc, rfl, hD3, hok3, hst3, k0, k1, k2, k6⟩
    obtain ⟨c2, rfl⟩ : ∃ r, c2 = r + 1 := ⟨c2 - 1, by omega⟩
    by_cases hz : z < n
    · have hzi : (z : Int) < (n : Int) := by omega
      have hst4 : stB2 n c2 (2 * z) (merB n z (n + 1) 0 D3) = R := by
        rw [← hst3]
        conv => rhs; unfold stB2
        rw [if_pos hz]
      have w2 : IntKind.i64.wrap (2 * (z : Int)) = 2 * (z : Int) := wrap64 (by omega) (by omega)
      have w2' : IntKind.i64.wrap ((z : Int) * 2) = (z : Int) * 2 := wrap64 (by omega) (by omega)
      repeat' (first
        | refine WP.t ?_ | refine WP.k ?_ | refine WP.e ?_ | refine Qn ?_ | refine Qr ?_ | refine Qe ?_ | refine Bn ?_ | refine Br ?_ | refine Be ?_ | refine Bx (by decide) ?_
        | (refine RS.nl ?_; refine hk _ _ ?_; clear hk k)
        | ((first | refine RS.st fun A B hA hB => ?_ | refine RQ.st fun A B hA hB => ?_); simp [k0, k1, k2, k6, hzi, hz, w2, w2', onW_t, onW_f, onV_s]; first | ((first | refine hA _ _ _ ?_ ?_ | refine hA _ _ _ ?_ (by first | exact .inl rfl | exact .inr (by decide)) ?_); (focus (simp [k0, k1, k2, k6, hzi, hz, w2, w2'] <;> omega)); clear hA hB A B) | (refine hB ?_; clear hA hB A B) | (refine onV_if ?_ ?_; (focus (first | omega | (refine ⟨?_, ?_⟩ <;> omega))); simp only [onV_s]; (first | refine hA _ _ _ ?_ ?_ | refine hA _ _ _ ?_ (by first | exact .inl rfl | exact .inr (by decide)) ?_); (focus (simp [k0, k1, k2, k6, hzi, hz, w2, w2'] <;> omega)); clear hA hB A B))
        | (refine RQ.nl ?_; refine hk _ _ ?_; clear hk k)
        | refine WP.sr fun k hk => ?_ | refine WP.r fun k hk => ?_
        | refine WP.sd _ rfl fun k hk => ?_ | refine WP.d _ rfl fun k hk => ?_
        | (refine WP.cc fun A B hA hB => ?_; simp [k0, k1, k2, k6, hzi, hz, w2, w2', onB_t, onB_f]; first | (refine hA ?_; clear hA hB A B) | (refine hB ?_; clear hA hB A B) | (refine onB_if (fun h => hA ?_) (fun h => hB ?_) <;> clear hA hB A B))
        | refine WP.q ?_ | refine WP.b ?_)
      refine WP_loop (fun q T s' => ∃ (a c : Nat) (D4 : Rows0), q = n - a ∧ a ≤ n ∧ n - a < c ∧ s' = s.put id (rowO D4) ∧ D4.length = n ∧ okD D4 ∧ stB2 n c2 (2 * z) (merB n z c a D4) = R ∧ T.get 0 = .ls id 0 n ∧ T.get 1 = .int .i64 n ∧ T.get 2 = .fn (.func 60) [] [] ∧ T.get 6 = .int .i64 z ∧ T.get 7 = .int .i64 a ∧ T.get 8 = .int .i64 ((a + 2 * z : Nat) : Int))
        n ⟨0, n + 1, D3, by omega, by omega, by omega, rfl, hD3, hok3, hst4, by simp [k0], by simp [k1], by simp [k2], by simp [k6], by simp, by simp⟩ ?_
      rintro q3 T3 s3 ⟨e, c3, D4, hq3, hen, hec, rfl, hD4, hok4, hst5, m0, m1, m2, m6, m7, m8⟩
      obtain ⟨c3, rfl⟩ : ∃ r, c3 = r + 1 := ⟨c3 - 1, by omega⟩
      have ob4 : okB D4 = true := okB_iff.2 hok4
      have hl4 : D4.length < 1073741824 := by omega
      have w3 : IntKind.i64.wrap ((e : Int) + (z : Int)) = (e : Int) + (z : Int) := wrap64 (by omega) (by omega)
      have t1 : ((e : Int) + (z : Int)).toNat = e + z := by omega
      by_cases he : e + 2 * z ≤ n
      · have hei : (e : Int) + 2 * (z : Int) ≤ (n : Int) := by omega
        have hst6 : stB2 n c2 (2 * z) (merB n z c3 (e + 2 * z) (symF n e (e + z) (e + 2 * z) D4)) = R := by
          rw [← hst5]
          conv => rhs; arg 4; unfold merB
          rw [if_pos he]
        have w4 : IntKind.i64.wrap ((e : Int) + 2 * (z : Int) + 2 * (z : Int)) = (e : Int) + 2 * (z : Int) + 2 * (z : Int) := wrap64 (by omega) (by omega)
        have b4 : (e : Int) < (e : Int) + (z : Int) := by omega
        have b5 : (e : Int) + (z : Int) < (e : Int) + 2 * (z : Int) := by omega
        have b6 : (e : Int) + 2 * (z : Int) ≤ (D4.length : Int) := by omega
        have b7 : (e : Int) + 2 * (z : Int) - (e : Int) ≤ (n : Int) := by omega
        have b8 : 2 * (z : Int) ≤ (n : Int) := by omega
        have b9 : 0 < z := hz0
        have b10 : (z : Int) < 2 * (z : Int) := by omega
        have b11 : 0 < (z : Int) := by omega
        have t2 : ((e : Int) + 2 * (z : Int)).toNat = e + 2 * z := by omega
        repeat' (first
          | refine WP.t ?_ | refine WP.k ?_ | refine WP.e ?_ | refine Qn ?_ | refine Qr ?_ | refine Qe ?_ | refine Bn ?_ | refine Br ?_ | refine Be ?_ | refine Bx (by decide) ?_
          | (refine RS.nl ?_; refine hk _ _ ?_; clear hk k)
          | ((first | refine RS.st fun A B hA hB => ?_ | refine RQ.st fun A B hA hB => ?_); simp [hsym, gSym, m0, m1, m2, m6, m7, m8, hei, he, w2, w3, w4, t1, t2, b4, b5, b6, b7, b8, b9, b10, b11, hid, hD4, hl2, ob4, St.get_put_same, onW_t, onW_f, onV_s]; first | ((first | refine hA _ _ _ ?_ ?_ | refine hA _ _ _ ?_ (by first | exact .inl rfl | exact .inr (by decide)) ?_); (focus (simp [hsym, gSym, m0, m1, m2, m6, m7, m8, hei, he, w2, w3, w4, t1, t2, b4, b5, b6, b7, b8, b9, b10, b11, hid, hD4, hl2, ob4, St.get_put_same] <;> omega)); clear hA hB A B) | (refine hB ?_; clear hA hB A B) | (refine onV_if ?_ ?_; (focus (first | omega | (refine ⟨?_, ?_⟩ <;> omega))); simp only [onV_s]; (first | refine hA _ _ _ ?_ ?_ | refine hA _ _ _ ?_ (by first | exact .inl rfl | exact .inr (by decide)) ?_); (focus (simp [hsym, gSym, m0, m1, m2, m6, m7, m8, hei, he, w2, w3, w4, t1, t2, b4, b5, b6, b7, b8, b9, b10, b11, hid, hD4, hl2, ob4, St.get_put_same] <;> omega)); clear hA hB A B))
          | (refine RQ.nl ?_; refine hk _ _ ?_; clear hk k)
          | refine WP.sr fun k hk => ?_ | refine WP.r fun k hk => ?_
          | refine WP.sd _ rfl fun k hk => ?_ | refine WP.d _ rfl fun k hk => ?_
          | (refine WP.cc fun A B hA hB => ?_; simp [hsym, gSym, m0, m1, m2, m6, m7, m8, hei, he, w2, w3, w4, t1, t2, b4, b5, b6, b7, b8, b9, b10, b11, hid, hD4, hl2, ob4, St.get_put_same, onB_t, onB_f]; first | (refine hA ?_; clear hA hB A B) | (refine hB ?_; clear hA hB A B) | (refine onB_if (fun h => hA ?_) (fun h => hB ?_) <;> clear hA hB A B))
          | refine WP.q ?_ | refine WP.b ?_)
        refine ⟨n - (e + 2 * z), by omega, e + 2 * z, c3, symF n e (e + z) (e + 2 * z) D4, rfl, he, by omega, by rw [St.put_put], by rw [symF_length]; exact hD4, symF_ok _ _ _ _ hok4, hst6, by simp [m0], by simp [m1], by simp [m2], by simp [m6], by simp, by simp⟩
      · have hei : ¬ (e : Int) + 2 * (z : Int) ≤ (n : Int) := by omega
        by_cases hez : e + z < n
        · have hezi : (e : Int) + (z : Int) < (n : Int) := by omega
          have hst6 : stB2 n c2 (2 * z) (symF n e (e + z) n D4) = R := by
            rw [← hst5]
            conv => rhs; arg 4; unfold merB
            rw [if_neg he, if_pos hez]
          have b4 : (e : Int) < (e : Int) + (z : Int) := by omega
          have b6 : (n : Int) ≤ (D4.length : Int) := by omega
          have b7 : (n : Int) - (e : Int) ≤ (n : Int) := by omega
          have b9 : 0 < z := hz0
          have b11 : 0 < (z : Int) := by omega
          repeat' (first
            | refine WP.t ?_ | refine WP.k ?_ | refine WP.e ?_ | refine Qn ?_ | refine Qr ?_ | refine Qe ?_ | refine Bn ?_ | refine Br ?_ | refine Be ?_ | refine Bx (by decide) ?_
            | (refine RS.nl ?_; refine hk _ _ ?_; clear hk k)
            | ((first | refine RS.st fun A B hA hB => ?_ | refine RQ.st fun A B hA hB => ?_); simp [hsym, gSym, m0, m1, m2, m6, m7, m8, hei, he, hezi, hez, w2, w2', w3, t1, b4, b6, b7, b9, b11, hid, hD4, hl2, ob4, St.get_put_same, onW_t, onW_f, onV_s]; first | ((first | refine hA _ _ _ ?_ ?_ | refine hA _ _ _ ?_ (by first | exact .inl rfl | exact .inr (by decide)) ?_); (focus (simp [hsym, gSym, m0, m1, m2, m6, m7, m8, hei, he, hezi, hez, w2, w2', w3, t1, b4, b6, b7, b9, b11, hid, hD4, hl2, ob4, St.get_put_same] <;> omega)); clear hA hB A B) | (refine hB ?_; clear hA hB A B) | (refine onV_if ?_ ?_; (focus (first | omega | (refine ⟨?_, ?_⟩ <;> omega))); simp only [onV_s]; (first | refine hA _ _ _ ?_ ?_ | refine hA _ _ _ ?_ (by first | exact .inl rfl | exact .inr (by decide)) ?_); (focus (simp [hsym, gSym, m0, m1, m2, m6, m7, m8, hei, he, hezi, hez, w2, w2', w3, t1, b4, b6, b7, b9, b11, hid, hD4, hl2, ob4, St.get_put_same] <;> omega)); clear hA hB A B))
            | (refine RQ.nl ?_; refine hk _ _ ?_; clear hk k)
            | refine WP.sr fun k hk => ?_ | refine WP.r fun k hk => ?_
            | refine WP.sd _ rfl fun k hk => ?_ | refine WP.d _ rfl fun k hk => ?_
            | (refine WP.cc fun A B hA hB => ?_; simp [hsym, gSym, m0, m1, m2, m6, m7, m8, hei, he, hezi, hez, w2, w2', w3, t1, b4, b6, b7, b9, b11, hid, hD4, hl2, ob4, St.get_put_same, onB_t, onB_f]; first | (refine hA ?_; clear hA hB A B) | (refine hB ?_; clear hA hB A B) | (refine onB_if (fun h => hA ?_) (fun h => hB ?_) <;> clear hA hB A B))
            | refine WP.q ?_ | refine WP.b ?_)
          refine ⟨n + n - 2 * z, by omega, 2 * z, c2, symF n e (e + z) n D4, rfl, by omega, by omega, by omega, by rw [St.put_put], by rw [symF_length]; exact hD4, symF_ok _ _ _ _ hok4, hst6, by simp [m0], by simp [m1], by simp [m2], by simp; omega⟩
        · have hezi : ¬ (e : Int) + (z : Int) < (n : Int) := by omega
          have hst6 : stB2 n c2 (2 * z) D4 = R := by
            rw [← hst5]
            conv => rhs; arg 4; unfold merB
            rw [if_neg he, if_neg hez]
          repeat' (first
            | refine WP.t ?_ | refine WP.k ?_ | refine WP.e ?_ | refine Qn ?_ | refine Qr ?_ | refine Qe ?_ | refine Bn ?_ | refine Br ?_ | refine Be ?_ | refine Bx (by decide) ?_
            | (refine RS.nl ?_; refine hk _ _ ?_; clear hk k)
            | ((first | refine RS.st fun A B hA hB => ?_ | refine RQ.st fun A B hA hB => ?_); simp [hsym, gSym, m0, m1, m2, m6, m7, m8, hei, he, hezi, hez, w2, w2', w3, hid, hD4, hl2, ob4, St.get_put_same, onW_t, onW_f, onV_s]; first | ((first | refine hA _ _ _ ?_ ?_ | refine hA _ _ _ ?_ (by first | exact .inl rfl | exact .inr (by decide)) ?_); (focus (simp [hsym, gSym, m0, m1, m2, m6, m7, m8, hei, he, hezi, hez, w2, w2', w3, hid, hD4, hl2, ob4, St.get_put_same] <;> omega)); clear hA hB A B) | (refine hB ?_; clear hA hB A B) | (refine onV_if ?_ ?_; (focus (first | omega | (refine ⟨?_, ?_⟩ <;> omega))); simp only [onV_s]; (first | refine hA _ _ _ ?_ ?_ | refine hA _ _ _ ?_ (by first | exact .inl rfl | exact .inr (by decide)) ?_); (focus (simp [hsym, gSym, m0, m1, m2, m6, m7, m8, hei, he, hezi, hez, w2, w2', w3, hid, hD4, hl2, ob4, St.get_put_same] <;> omega)); clear hA hB A B))
            | (refine RQ.nl ?_; refine hk _ _ ?_; clear hk k)
            | refine WP.sr fun k hk => ?_ | refine WP.r fun k hk => ?_
            | refine WP.sd _ rfl fun k hk => ?_ | refine WP.d _ rfl fun k hk => ?_
            | (refine WP.cc fun A B hA hB => ?_; simp [hsym, gSym, m0, m1, m2, m6, m7, m8, hei, he, hezi, hez, w2, w2', w3, hid, hD4, hl2, ob4, St.get_put_same, onB_t, onB_f]; first | (refine hA ?_; clear hA hB A B) | (refine hB ?_; clear hA hB A B) | (refine onB_if (fun h => hA ?_) (fun h => hB ?_) <;> clear hA hB A B))
            | refine WP.q ?_ | refine WP.b ?_)
          refine ⟨n + n - 2 * z, by omega, 2 * z, c2, D4, rfl, by omega, by omega, by omega, rfl, hD4, hok4, hst6, by simp [m0], by simp [m1], by simp [m2], by simp; omega⟩
    · have hzi : ¬ (z : Int) < (n : Int) := by omega
      have hst4 : D3 = R := by
        rw [← hst3]
        unfold stB2
        rw [if_neg hz]
      repeat' (first
        | refine WP.t ?_ | refine WP.k ?_ | refine WP.e ?_ | refine Qn ?_ | refine Qr ?_ | refine Qe ?_ | refine Bn ?_ | refine Br ?_ | refine Be ?_ | refine Bx (by decide) ?_
        | (refine RS.nl ?_; refine hk _ _ ?_; clear hk k)
        | ((first | refine RS.st fun A B hA hB => ?_ | refine RQ.st fun A B hA hB => ?_); simp [k0, k1, k2, k6, hzi, hz, onW_t, onW_f, onV_s]; first | ((first | refine hA _ _ _ ?_ ?_ | refine hA _ _ _ ?_ (by first | exact .inl rfl | exact .inr (by decide)) ?_); (focus (simp [k0, k1, k2, k6, hzi, hz] <;> omega)); clear hA hB A B) | (refine hB ?_; clear hA hB A B) | (refine onV_if ?_ ?_; (focus (first | omega | (refine ⟨?_, ?_⟩ <;> omega))); simp only [onV_s]; (first | refine hA _ _ _ ?_ ?_ | refine hA _ _ _ ?_ (by first | exact .inl rfl | exact .inr (by decide)) ?_); (focus (simp [k0, k1, k2, k6, hzi, hz] <;> omega)); clear hA hB A B))
        | (refine RQ.nl ?_; refine hk _ _ ?_; clear hk k)
        | refine WP.sr fun k hk => ?_ | refine WP.r fun k hk => ?_
        | refine WP.sd _ rfl fun k hk => ?_ | refine WP.d _ rfl fun k hk => ?_
        | (refine WP.cc fun A B hA hB => ?_; simp [k0, k1, k2, k6, hzi, hz, onB_t, onB_f]; first | (refine hA ?_; clear hA hB A B) | (refine hB ?_; clear hA hB A B) | (refine onB_if (fun h => hA ?_) (fun h => hB ?_) <;> clear hA hB A B))
        | refine WP.q ?_ | refine WP.b ?_)
      rw [← hst4]
      exact finRow (.inl rfl) hid rfl
end
end Go.Am
namespace Go.Am
open Go.Proofs
/-- The state behind slices.Clone. -/
def stC (s : St) (D : Rows0) : St := ((s.push (.row 1 (true, 33) [])).drop s.nx).push (rowO D)
theorem stC_nx (s : St) (D : Rows0) : (stC s D).nx = s.nx + 2 := rfl
theorem stC_lo {s : St} {D : Rows0} {id : Nat} (h : id < s.nx) : (stC s D).get id = s.get id := by
  unfold stC
  rw [St.get_push, if_neg (by simp; omega), St.get_drop, if_neg (by omega), St.get_push, if_neg (by omega)]
theorem stC_get (s : St) (D : Rows0) : (stC s D).get (s.nx + 1) = some (rowO D) := by
  unfold stC
  rw [St.get_push, if_pos (by simp)]
theorem stC_mid (s : St) (D : Rows0) : (stC s D).get s.nx = none := by
  unfold stC
  rw [St.get_push, if_neg (by simp), St.get_drop, if_pos rfl]
section
variable {K : Nat} {gw : World} {s : St}
attribute [local simp] awanted xop zOf zrow aop ev T0 Slots.put Slots.set Slots.get awr WOk AV.may ofConst abinop aint isConst St.get_push St.get_put St.live AV.fit AV.cells AV.one fieldOf afieldAddr aload ofCells astore splice May eqres env_ti FinP FinZ FinW ares aresL ares1 Fns.addP Fns.add Fns.a0 Fns.a1 Fns.a2 Fns.a3 Fns.a4 abuiltin alenOk alen aindex elemOfT elemId abuildSlice afill chunks ard aappend isSS AV.isStr aminmax placesOf abuild afield aidx isStrD isStrDesc astrop aslice asliceOk abound arange anext aextract aunop aeq AV.ck avseq aveq aconv aconvert onB_t onB_f List.range_succ ti0 ti1 ti2 ti3 ti4 ti5 ti6 ti7 ti8 ti9 ti10 ti11 ti12 ti13 ti14 ti15 ti16 ti17 ti18 ti19 ti20 ti21 ti22 ti23 ti24 ti25 ti26 ti27 ti28 ti29 ti30 ti31 ti32 ti33 ti34 ti35 ti36 ti37 ti38 ti39 ti40 ti41 ti42 ti43 ti44 ti45 ti46 ti47 ti48 ti49 ti50 ti51 ti52 ti53 ti54 ti55 ti56 ti57 ti58 ti59 ti60 ti61 ti62 ti63 ti64 ti65 ti66 ti67 ti68 ti69 ti70 ti71 ti72 ti73 ti74 ti75 ti76 ti77 ti78 ti79 ti80 ti81 ti82 ti83 ti84 ti85 ti86 ti87 ti88 ti89 ti90 ti91 ti92 ti93 ti94 ti95 ti96 ti97 ti98 ti99 ti100 ti101 ti102 ti103 ti104 ti105 ti106 ti107 ti108 ti109 ti110 ti111 ti112 ti113 ti114 ti115 ti116 ti117 ti118 ti119 ti120 ti121 ti122 ti123 ti124 ti125 ti126 ti127 ti128 ti129 ti130 ti131 ti132 ti133 ti134 ti135 ti136 ti137 ti138 ti139 ti140 ti141 ti142 ti143 ti144 ti145 ti146 ti147
theorem finC {rs : Array ResultVar} {e : Exit} {T : Slots} {D : Rows0} (he : e = .normal ∨ e = .ret) (hr : ares (env K gw) T (stC s D) rs = some (.ls (s.nx + 1) 0 D.length)) :
    FinW (env K gw) rs NoW s (.ls (s.nx + 1) 0 D.length) (stC s D) e T (stC s D) := by
  refine ⟨he, hr, by rw [stC_nx]; simp, by rw [stC_nx]; omega, Nat.le_refl _, fun _ => ⟨fun _ _ => rfl, fun id hid h o ho => ?_⟩⟩
  rcases h with h | h
  · exact h.elim
  · rw [stC_nx] at hid
    by_cases e1 : id = s.nx
    · subst e1
      rw [stC_mid] at ho
      cases ho
    · obtain rfl : id = s.nx + 1 := by omega
      rw [stC_get] at ho
      cases ho
      exact belowO _ _
set_option maxRecDepth 20000 in
set_option maxHeartbeats 16000000 in
theorem ft34 (hK : 0 < K) (hT : Tens gw) (D : Rows0) (hl : D.length < 268435456) :
    FT (env K gw) NoW 58 [.sl (encD D)] s (.ls (s.nx + 1) 0 D.length) (stC s D) := by
  refine FT.ownC (fn := Tryd.f58) Tryd.func58 (by kernel_rfl) (by rfl) rfl rfl (by simp) fun μ w => ?_
  have h36 := ti36
  refine CT.seq (CT.region (OT.step (i := 0) (rest := []) rfl rfl rfl (Step1.val (r := .nsl) (s' := s) rfl trivial) (OT.nil ?_)))
  refine CT.seq (CT.seq (CT.region (OT.step (i := 0) (rest := [1]) rfl rfl rfl (Step1.val (r := .sl (encD D)) (s' := s) rfl trivial) (OT.nilq (y := ⟨1, 24, false, [.slice none 0 0], .slice 33, false, false⟩) (e := 33) (xs := encD D) rfl rfl rfl rfl (by simp only [env]; exact h36) rfl rfl fun b hb => OT.nil ?_))))
  cases b with
  | true =>
    have hD : D = [] := by
      cases D with
      | nil => rfl
      | cons x D => exact absurd (hb (by simp [encD])) (by simp)
    subst hD
    refine CT.cond (t := true) rfl ?_
    refine CT.seq (CT.region (OT.step (i := 0) (rest := []) rfl rfl rfl (Step1.val (r := .nsl) (s' := s) rfl trivial) (OT.nil ?_)))
    refine CT.nlrow (s2 := stC s []) 2 (s.nx + 1) rfl (by rw [stC_nx]; omega) (fun id hid => stC_lo hid) (by rw [stC_nx]; omega) ?_
    exact CT.ret (finC (.inr rfl) rfl)
  | false =>
    refine CT.cond (t := false) rfl (CT.skip ?_)
    refine WP_sound (F0_ok) mixed (Nat.le_refl _) _ _ _ s (by rfl) ?_
    have hone : ((encD D).all fun y => y.length == 1 && y.all AV.one) = true := by
      simp [encD, Rw, AV.one]
    have hby : D.length * 24 ≤ 140737488355328 := by omega
    repeat' (first
      | refine WP.t ?_ | refine WP.k ?_ | refine WP.e ?_ | refine Qn ?_ | refine Qr ?_ | refine Qe ?_ | refine Bn ?_ | refine Br ?_ | refine Be ?_ | refine Bx (by decide) ?_
      | (refine RS.nl ?_; refine hk _ _ ?_; clear hk k)
      | ((first | refine RS.st fun A B hA hB => ?_ | refine RQ.st fun A B hA hB => ?_); simp [elemOfT, elemId, ti36, ti33, abuildSlice, afill, chunks, abuiltin, ard, aappend, isSS, AV.isStr, hone, hby, onW_t, onW_f, onV_s]; first | ((first | refine hA _ _ _ ?_ ?_ | refine hA _ _ _ ?_ (by first | exact .inl rfl | exact .inr (by decide)) ?_); (focus (simp [elemOfT, elemId, ti36, ti33, abuildSlice, afill, chunks, abuiltin, ard, aappend, isSS, AV.isStr, hone, hby] <;> omega)); clear hA hB A B) | (refine hB ?_; clear hA hB A B) | (refine onV_if ?_ ?_; (focus (first | omega | (refine ⟨?_, ?_⟩ <;> omega))); simp only [onV_s]; (first | refine hA _ _ _ ?_ ?_ | refine hA _ _ _ ?_ (by first | exact .inl rfl | exact .inr (by decide)) ?_); (focus (simp [elemOfT, elemId, ti36, ti33, abuildSlice, afill, chunks, abuiltin, ard, aappend, isSS, AV.isStr, hone, hby] <;> omega)); clear hA hB A B))
      | (refine RQ.nl ?_; refine hk _ _ ?_; clear hk k)
      | refine WP.sr fun k hk => ?_ | refine WP.r fun k hk => ?_
      | refine WP.sd _ rfl fun k hk => ?_ | refine WP.d _ rfl fun k hk => ?_
      | (refine WP.cc fun A B hA hB => ?_; simp [elemOfT, elemId, ti36, ti33, abuildSlice, afill, chunks, abuiltin, ard, aappend, isSS, AV.isStr, hone, hby, onB_t, onB_f]; first | (refine hA ?_; clear hA hB A B) | (refine hB ?_; clear hA hB A B) | (refine onB_if (fun h => hA ?_) (fun h => hB ?_) <;> clear hA hB A B))
      | refine WP.q ?_ | refine WP.b ?_)
    exact finC (.inr rfl) rfl
end
end Go.Am
namespace Go.Am
open Go.Proofs
section
variable {K : Nat} {gw : World} {s : St}
attribute [local simp] awanted xop zOf zrow aop ev T0 Slots.put Slots.set Slots.get awr WOk AV.may ofConst abinop aint isConst St.get_push St.get_put St.live AV.fit AV.cells AV.one fieldOf afieldAddr aload ofCells astore splice May eqres env_ti FinP FinZ FinW ares aresL ares1 Fns.addP Fns.add Fns.a0 Fns.a1 Fns.a2 Fns.a3 Fns.a4 abuiltin alenOk alen aindex elemOfT elemId abuildSlice afill chunks ard aappend isSS AV.isStr aminmax placesOf abuild afield aidx isStrD isStrDesc astrop aslice asliceOk abound arange anext aextract aunop aeq AV.ck avseq aveq aconv aconvert onB_t onB_f List.range_succ ti0 ti1 ti2 ti3 ti4 ti5 ti6 ti7 ti8 ti9 ti10 ti11 ti12 ti13 ti14 ti15 ti16 ti17 ti18 ti19 ti20 ti21 ti22 ti23 ti24 ti25 ti26 ti27 ti28 ti29 ti30 ti31 ti32 ti33 ti34 ti35 ti36 ti37 ti38 ti39 ti40 ti41 ti42 ti43 ti44 ti45 ti46 ti47 ti48 ti49 ti50 ti51 ti52 ti53 ti54 ti55 ti56 ti57 ti58 ti59 ti60 ti61 ti62 ti63 ti64 ti65 ti66 ti67 ti68 ti69 ti70 ti71 ti72 ti73 ti74 ti75 ti76 ti77 ti78 ti79 ti80 ti81 ti82 ti83 ti84 ti85 ti86 ti87 ti88 ti89 ti90 ti91 ti92 ti93 ti94 ti95 ti96 ti97 ti98 ti99 ti100 ti101 ti102 ti103 ti104 ti105 ti106 ti107 ti108 ti109 ti110 ti111 ti112 ti113 ti114 ti115 ti116 ti117 ti118 ti119 ti120 ti121 ti122 ti123 ti124 ti125 ti126 ti127 ti128 ti129 ti130 ti131 ti132 ti133 ti134 ti135 ti136 ti137 ti138 ti139 ti140 ti141 ti142 ti143 ti144 ti145 ti146 ti147
/-- What sorts a row of rows in place: 50, 35. -/
def gStb (xs : List AV) (s : St) : Option (AV × St × List Nat) :=
  match xs with
  | [.ls id 0 n, .int .i64 m, .fn (.func 60) [] []] => if id < s.nx then (match s.get id with
    | some (.row 1 (true, 33) es) => match decD es with
      | some D => if (n = D.length ∧ m = (D.length : Int) ∧ D.length < 268435456) ∧ okB D = true then some (.tup [], s.put id (rowO (stable D)), [id]) else none
      | none => none
    | _ => none) else none
  | _ => none
def gStb2 (xs : List AV) (s : St) : Option (AV × St × List Nat) :=
  match xs with
  | [.ls id 0 n, .fn (.func 60) [] []] => if id < s.nx then (match s.get id with
    | some (.row 1 (true, 33) es) => match decD es with
      | some D => if (n = D.length ∧ D.length < 268435456) ∧ okB D = true then some (.tup [], s.put id (rowO (stable D)), [id]) else none
      | none => none
    | _ => none) else none
  | _ => none
noncomputable def U1 : Fns := F12.add 65 gStb
theorem U1_ok (hK : 0 < K) (hT : Tens gw) : FOk (env K gw) U1 := by
  refine (F12_ok hK hT).add fun xs s r s' l h => ?_
  unfold gStb at h
  split at h
  · rename_i id n m
    split at h
    · rename_i hid
      split at h
      · rename_i hs
        split at h
        · rename_i D hD
          split at h
          · rename_i hc
            cases h
            obtain ⟨⟨rfl, rfl, hl⟩, h6⟩ := hc
            rw [decD_eq hD] at hs
            exact ft50 hK hT D hid hs hl (okB_iff.1 h6)
          · cases h
        · cases h
      · cases h
    · cases h
  · cases h
set_option maxRecDepth 20000 in
set_option maxHeartbeats 16000000 in
theorem ft35 (hK : 0 < K) (hT : Tens gw) {id : Nat} (D : Rows0) (hid : id < s.nx) (hs : s.get id = some (rowO D)) (hl : D.length < 268435456) (hok : okD D) :
    FT (env K gw) (fun i => i ∈ [id]) 59 [.ls id 0 D.length, .fn (.func 60) [] []] s (.tup []) (s.put id (rowO (stable D))) := by
  refine FT.own (fn := Tryd.f59) (U1_ok hK hT) mixed Tryd.func59 (by kernel_rfl) (by rfl) rfl rfl (by simp) (by kernel_rfl) fun μ w => ?_
  have hstb : ∀ xs s, U1 65 xs s = gStb xs s := fun xs s => by simp [U1, Fns.add]
  have ob : okB D = true := okB_iff.2 hok
  repeat' (first
    | refine WP.t ?_ | refine WP.k ?_ | refine WP.e ?_ | refine Qn ?_ | refine Qr ?_ | refine Qe ?_ | refine Bn ?_ | refine Br ?_ | refine Be ?_ | refine Bx (by decide) ?_
    | (refine RS.nl ?_; refine hk _ _ ?_; clear hk k)
    | ((first | refine RS.st fun A B hA hB => ?_ | refine RQ.st fun A B hA hB => ?_); simp [hstb, gStb, abuiltin, alenOk, alen, ti36, hid, hs, hl, ob, onW_t, onW_f, onV_s]; first | ((first | refine hA _ _ _ ?_ ?_ | refine hA _ _ _ ?_ (by first | exact .inl rfl | exact .inr (by decide)) ?_); (focus (simp [hstb, gStb, abuiltin, alenOk, alen, ti36, hid, hs, hl, ob] <;> omega)); clear hA hB A B) | (refine hB ?_; clear hA hB A B) | (refine onV_if ?_ ?_; (focus (first | omega | (refine ⟨?_, ?_⟩ <;> omega))); simp only [onV_s]; (first | refine hA _ _ _ ?_ ?_ | refine hA _ _ _ ?_ (by first | exact .inl rfl | exact .inr (by decide)) ?_); (focus (simp [hstb, gStb, abuiltin, alenOk, alen, ti36, hid, hs, hl, ob] <;> omega)); clear hA hB A B))
    | (refine RQ.nl ?_; refine hk _ _ ?_; clear hk k)
    | refine WP.sr fun k hk => ?_ | refine WP.r fun k hk => ?_
    | refine WP.sd _ rfl fun k hk => ?_ | refine WP.d _ rfl fun k hk => ?_
    | (refine WP.cc fun A B hA hB => ?_; simp [hstb, gStb, abuiltin, alenOk, alen, ti36, hid, hs, hl, ob, onB_t, onB_f]; first | (refine hA ?_; clear hA hB A B) | (refine hB ?_; clear hA hB A B) | (refine onB_if (fun h => hA ?_) (fun h => hB ?_) <;> clear hA hB A B))
    | refine WP.q ?_ | refine WP.b ?_)
  exact finRow (.inl rfl) hid rfl
noncomputable def U2 : Fns := U1.add 59 gStb2
theorem U2_ok (hK : 0 < K) (hT : Tens gw) : FOk (env K gw) U2 := by
  refine (U1_ok hK hT).add fun xs s r s' l h => ?_
  unfold gStb2 at h
  split at h
  · rename_i id n
    split at h
    · rename_i hid
      split at h
      · rename_i hs
        split at h
        · rename_i D hD
          split at h
          · rename_i hc
            cases h
            obtain ⟨⟨rfl, hl⟩, h6⟩ := hc
            rw [decD_eq hD] at hs
            exact ft35 hK hT D hid hs hl (okB_iff.1 h6)
          · cases h
        · cases h
      · cases h
    · cases h
  · cases h
/-- Of slices.Clone. -/
def gCln (xs : List AV) (s : St) : Option (AV × St × List Nat) :=
  match xs with
  | [.sl es] => match decD es with
    | some D => if D.length < 268435456 then some (.ls (s.nx + 1) 0 D.length, stC s D, []) else none
    | none => none
  | _ => none
noncomputable def U3 : Fns := U2.add 58 gCln
theorem U3_ok (hK : 0 < K) (hT : Tens gw) : FOk (env K gw) U3 := by
  refine (U2_ok hK hT).add fun xs s r s' l h => ?_
  unfold gCln at h
  split at h
  · split at h
    · rename_i D hD
      split at h
      · rename_i hl
        cases h
        rw [decD_eq hD]
        have : (fun id => id ∈ ([] : List Nat)) = NoW := by funext id; simp
        rw [this]
        exact ft34 hK hT D hl
      · cases h
    · cases h
  · cases h
/-- Of the closure that tells whether two rows are alike. -/
def pAlk : List AV → Option AV
  | [.sl a, .sl b] => match decL a, decL b with
    | some x, some y => if x.length < LIM ∧ y.length < LIM then some (.bool (decide (cmpT x y = 0))) else none
    | _, _ => none
  | _ => none
set_option maxRecDepth 20000 in
set_option maxHeartbeats 16000000 in
theorem ft37 (hK : 0 < K) (hT : Tens gw) (x y : List V) (hx : x.length < LIM) (hy : y.length < LIM) :
    FT (env K gw) NoW 62 [.sl (x.map V.cs), .sl (y.map V.cs)] s (.bool (decide (cmpT x y = 0))) s := by
  refine FT.pure (fn := Tryd.f62) (U3_ok hK hT) mixed Tryd.func62 (by kernel_rfl) (by rfl) rfl rfl (by simp) (by kernel_rfl) fun μ w => ?_
  have hcmp : U3 60 [.sl (x.map V.cs), .sl (y.map V.cs)] s = some (.int .i64 (cmpT x y), s, []) := by
    simp [U3, U2, U1, F12, F12, F11, F10, F9, F8, F7, F6, F5, F4, Fns.add, Fns.addP, pCmpT, hx, hy]
  have hb : (cmpT x y == 0) = decide (cmpT x y = 0) := by
    by_cases h : cmpT x y = 0 <;> simp [h]
  repeat' (first
    | refine WP.t ?_ | refine WP.k ?_ | refine WP.e ?_ | refine Qn ?_ | refine Qr ?_ | refine Qe ?_ | refine Bn ?_ | refine Br ?_ | refine Be ?_ | refine Bx (by decide) ?_
    | (refine RS.nl ?_; refine hk _ _ ?_; clear hk k)
    | ((first | refine RS.st fun A B hA hB => ?_ | refine RQ.st fun A B hA hB => ?_); simp [hcmp, hb, onW_t, onW_f, onV_s]; first | ((first | refine hA _ _ _ ?_ ?_ | refine hA _ _ _ ?_ (by first | exact .inl rfl | exact .inr (by decide)) ?_); (focus (simp [hcmp, hb] <;> omega)); clear hA hB A B) | (refine hB ?_; clear hA hB A B) | (refine onV_if ?_ ?_; (focus (first | omega | (refine ⟨?_, ?_⟩ <;> omega))); simp only [onV_s]; (first | refine hA _ _ _ ?_ ?_ | refine hA _ _ _ ?_ (by first | exact .inl rfl | exact .inr (by decide)) ?_); (focus (simp [hcmp, hb] <;> omega)); clear hA hB A B))
    | (refine RQ.nl ?_; refine hk _ _ ?_; clear hk k)
    | refine WP.sr fun k hk => ?_ | refine WP.r fun k hk => ?_
    | refine WP.sd _ rfl fun k hk => ?_ | refine WP.d _ rfl fun k hk => ?_
    | (refine WP.cc fun A B hA hB => ?_; simp [hcmp, hb, onB_t, onB_f]; first | (refine hA ?_; clear hA hB A B) | (refine hB ?_; clear hA hB A B) | (refine onB_if (fun h => hA ?_) (fun h => hB ?_) <;> clear hA hB A B))
    | refine WP.q ?_ | refine WP.b ?_)
  exact ⟨.inr rfl, rfl, by simp⟩
noncomputable def U4 : Fns := U3.addP 62 pAlk
theorem U4_ok (hK : 0 < K) (hT : Tens gw) : FOk (env K gw) U4 := by
  refine (U3_ok hK hT).addP fun xs s r h => ?_
  unfold pAlk at h
  split at h
  · split at h
    · rename_i x y hx hy
      split at h
      · rename_i hl
        cases h
        rw [decL_eq hx, decL_eq hy]
        exact ft37 hK hT x y hl.1 hl.2
      · cases h
    · cases h
  · cases h
end
end Go.Am
