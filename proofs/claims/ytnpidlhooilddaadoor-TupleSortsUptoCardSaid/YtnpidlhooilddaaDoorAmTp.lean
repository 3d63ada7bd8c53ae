/- Part of the proof: abstract values over the given model of Go (T35, T36, T37, T38, T39, T40). Conditions: none of its own; see the statement in the seat's Rows text. -/
import Derived.Test.YtnpidlhooilddaaDoorAmTo
import Derived.Test.YtnpidlhooilddaaDoorAmFour
set_option linter.unusedSimpArgs false
set_option linter.unusedVariables false
set_option linter.unusedSectionVars false
namespace Go.Am
open Go.Proofs
theorem ite_P {P : Rows0 → Prop} {x y : Rows0} (c : Prop) [Decidable c] (hx : P x) (hy : P y) : P (if c then x else y) := by split <;> assumption
section
variable {P : Rows0 → Prop} (hP : ∀ D i j, P D → P (swp D i j))
include hP
theorem movU_P : ∀ (c q : Nat) {D : Rows0}, P D → P (movU c q D)
  | 0, _, _, h => h
  | c + 1, q, D, h => by unfold movU; exact movU_P c _ (hP _ _ _ h)
theorem movD_P (i : Nat) : ∀ (q : Nat) {D : Rows0}, P D → P (movD i q D)
  | 0, _, h => h
  | q + 1, D, h => by
    unfold movD
    split
    · exact movD_P i q (hP _ _ _ h)
    · exact h
theorem swapR_P : ∀ (n : Nat) {D : Rows0} (a b : Nat), P D → P (swapR n D a b)
  | 0, _, _, _, h => h
  | n + 1, D, a, b, h => by unfold swapR; exact swapR_P n _ _ (hP _ _ _ h)
theorem rotF_P (m : Nat) : ∀ (n i j : Nat) {D : Rows0}, P D → P (rotF m n i j D)
  | 0, _, _, _, h => h
  | n + 1, i, j, D, h => by
    unfold rotF
    split
    · exact swapR_P hP _ _ _ h
    · split
      · exact rotF_P m n _ _ (swapR_P hP _ _ _ h)
      · exact rotF_P m n _ _ (swapR_P hP _ _ _ h)
end
def symS (D : Rows0) (nn i0 j0 : Nat) : Nat := bs (fun c => !decide (cmpT (gD D (nn - 1 - c)) (gD D c) < 0)) (j0 - i0) i0 j0
def symF : Nat → Nat → Nat → Nat → Rows0 → Rows0
  | 0, _, _, _, D => D
  | n + 1, a, m, b, D =>
    if m = a + 1 then movU (bs (fun q => decide (cmpT (gD D q) (gD D a) < 0)) (b - (a + 1)) (a + 1) b - 1 - a) a D
    else if b = m + 1 then movD (bs (fun q => !decide (cmpT (gD D m) (gD D q) < 0)) (m - a) a m) m D
    else
      let mid := (a + b) / 2
      let st := symS D (mid + m) (if mid < m then mid + m - b else a) (if mid < m then mid else m)
      let en := mid + m - st
      let D1 := if st < m ∧ m < en then rotF m (en - st) (m - st) (en - m) D else D
      let D2 := if a < st ∧ st < mid then symF n a st mid D1 else D1
      if mid < en ∧ en < b then symF n mid en b D2 else D2
theorem symF_P {P : Rows0 → Prop} (hP : ∀ D i j, P D → P (swp D i j)) : ∀ (n a m b : Nat) {D : Rows0}, P D → P (symF n a m b D) := by
  intro n
  induction n with
  | zero => intro a m b D h; exact h
  | succ n ih =>
    intro a m b D h
    unfold symF
    refine ite_P _ (movU_P hP _ _ h) (ite_P _ (movD_P hP _ _ h) ?_)
    exact ite_P _ (ih _ _ _ (ite_P _ (ih _ _ _ (ite_P _ (rotF_P hP _ _ _ _ h) h)) (ite_P _ (rotF_P hP _ _ _ _ h) h))) (ite_P _ (ih _ _ _ (ite_P _ (rotF_P hP _ _ _ _ h) h)) (ite_P _ (rotF_P hP _ _ _ _ h) h))
theorem symF_length (n a m b : Nat) (D : Rows0) : (symF n a m b D).length = D.length := symF_P (P := fun X => X.length = D.length) (fun X i j h => by rw [swp_length]; exact h) n a m b (D := D) rfl
theorem symF_ok (n a m b : Nat) {D : Rows0} (h : okD D) : okD (symF n a m b D) := symF_P (P := okD) (fun X i j h => swp_ok h i j) n a m b (D := D) h
def okB (D : Rows0) : Bool := D.all fun t => decide (t.length < LIM)
theorem okB_iff {D : Rows0} : okB D = true ↔ okD D := okD_all
section
variable {K : Nat} {gw : World} {s : St}
attribute [local simp] RS_cons' RS_nil RQ_nil RQ_cons' awanted xop zOf zrow aop ev T0 Slots.put Slots.set Slots.get awr WOk AV.may ofConst abinop aint isConst St.get_push St.get_put St.live AV.fit AV.cells AV.one fieldOf afieldAddr aload ofCells astore splice May eqres env_ti FinP ares aresL ares1 Fns.addP Fns.add
def gSym (q : Nat) (xs : List AV) (s : St) : Option (AV × St × List Nat) :=
  match xs with
  | [.ls id 0 n, .int .i64 a, .int .i64 m, .int .i64 b, .fn (.func 11) [] []] => if id < s.nx then (match s.get id with
    | some (.row 1 (true, 22) es) => match decD es with
      | some D => if (n = D.length ∧ D.length < 1073741824) ∧ (0 ≤ a ∧ a < m ∧ m < b ∧ b ≤ D.length ∧ b - a ≤ q) ∧ okB D = true then some (.tup [], s.put id (rowO (symF q a.toNat m.toNat b.toNat D)), [id]) else none
      | none => none
    | _ => none) else none
  | _ => none
set_option maxRecDepth 20000 in
set_option maxHeartbeats 16000000 in
theorem ft64c (hK : 0 < K) (hT : Tens gw) (F : Fns) (hF : FOk (env K gw) F) (qn : Nat) (hcmp : ∀ (x y : List V) (s : St), x.length < LIM → y.length < LIM → F 11 [.sl (x.map V.cs), .sl (y.map V.cs)] s = some (.int .i64 (cmpT x y), s, []))
    (hrot : ∀ xs s, F 74 xs s = gRot xs s) (hsym : ∀ xs s, F 64 xs s = gSym qn xs s) {id : Nat} (D : Rows0) (hid : id < s.nx) (hs : s.get id = some (rowO D)) (a m b : Nat) (ham : a + 1 < m) (hmb : m + 1 < b) (hbl : b ≤ D.length) (hl : D.length < 1073741824) (hq : b - a ≤ qn + 1) (hok : okD D) :
    FT (env K gw) (fun i => i ∈ [id]) 64 [.ls id 0 D.length, .int .i64 a, .int .i64 m, .int .i64 b, .fn (.func 11) [] []] s (.tup []) (s.put id (rowO (symF (qn + 1) a m b D))) := by
  refine FT.own (fn := Tryd.f64) hF mixed Tryd.func64 (by kernel_rfl) (by rfl) rfl rfl (by simp) (by kernel_rfl) fun μ w => ?_
  have w0 : IntKind.i64.wrap ((m : Int) - (a : Int)) = (m : Int) - (a : Int) := by rw [wrap64 (by omega) (by omega)]
  have w0' : ((m : Int) - (a : Int) == 1) = false := by rw [beq_eq_false_iff_ne]; omega
  have w1 : IntKind.i64.wrap ((b : Int) - (m : Int)) = (b : Int) - (m : Int) := by rw [wrap64 (by omega) (by omega)]
  have w1' : ((b : Int) - (m : Int) == 1) = false := by rw [beq_eq_false_iff_ne]; omega
  have hF0 : symF (qn + 1) a m b D = (let mid := (a + b) / 2
      let st := symS D (mid + m) (if mid < m then mid + m - b else a) (if mid < m then mid else m)
      let en := mid + m - st
      let D1 := if st < m ∧ m < en then rotF m (en - st) (m - st) (en - m) D else D
      let D2 := if a < st ∧ st < mid then symF qn a st mid D1 else D1
      if mid < en ∧ en < b then symF qn mid en b D2 else D2) := by
    conv => lhs; unfold symF
    rw [if_neg (by omega), if_neg (by omega)]
  rw [hF0]
  simp only
  generalize hmid : (a + b) / 2 = mid at *
  have c1 : IntKind.i64.wrap ((a : Int) + (b : Int)) = (a : Int) + (b : Int) := wrap64 (by omega) (by omega)
  have c2 : IntKind.u64.wrap ((a : Int) + (b : Int)) = (a : Int) + (b : Int) := wrapu (by omega) (by omega)
  have c3 : ((a : Int) + (b : Int)).fdiv 2 = (mid : Int) := by rw [Int.fdiv_eq_ediv_of_nonneg _ (by omega)]; omega
  have c4 : IntKind.i64.wrap (mid : Int) = (mid : Int) := wrap64 (by omega) (by omega)
  have c5 : IntKind.i64.wrap ((mid : Int) + (m : Int)) = ((mid + m : Nat) : Int) := by rw [wrap64 (by omega) (by omega)]; omega
  generalize hnn : mid + m = nn at *
  have c6 : IntKind.i64.wrap ((nn : Int) - (b : Int)) = ((nn - b : Nat) : Int) ∨ ¬ mid < m := by
    by_cases h : mid < m
    · left; rw [wrap64 (by omega) (by omega)]; omega
    · exact .inr h
  have c7 : IntKind.i64.wrap ((nn : Int) - 1) = ((nn - 1 : Nat) : Int) := by rw [wrap64 (by omega) (by omega)]; omega
  generalize hpp : nn - 1 = pp at *
  generalize hi0 : (if mid < m then nn - b else a) = i0 at *
  generalize hj0 : (if mid < m then mid else m) = j0 at *
  have bnd : a ≤ i0 ∧ i0 ≤ j0 ∧ j0 ≤ mid ∧ j0 ≤ m ∧ pp < b + i0 := by
    by_cases h : mid < m
    · rw [if_pos h] at hi0 hj0; omega
    · rw [if_neg h] at hi0 hj0; omega
  generalize hst : symS D nn i0 j0 = st at *
  by_cases hmm : mid < m
  · have c6' := c6.resolve_right (fun h => h hmm)
    rw [if_pos hmm] at hi0 hj0
    rw [hi0] at c6'
    have hj0' : (mid : Int) = (j0 : Int) := by omega
    have hmi : (mid : Int) < (m : Int) := by omega
    unfold symS at hst
    rw [hpp] at hst
    repeat' (first
      | refine WP.t ?_ | refine WP.k ?_ | refine WP.e ?_ | refine Qn ?_ | refine Qr ?_ | refine Qe ?_ | refine Bn ?_ | refine Br ?_ | refine Be ?_ | refine Bx (by decide) ?_
      | (refine RS.nl ?_; refine hk _ _ ?_; clear hk k)
      | (refine RS.st fun A B hA hB => ?_; simp [w0, w0', w1, w1', c1, c2, c3, c4, c5, c6', c7, hmi, ti99, ti3, aconv, aconvert, ashift, IntKind.bits, onW_t, onW_f, onV_s]; first | (refine hA _ _ _ ?_ ?_; (focus (first | (simp [w0, w0', w1, w1', c1, c2, c3, c4, c5, c6', c7, hmi, ti99, ti3, aconv, aconvert, ashift, IntKind.bits]; done) | (simp [w0, w0', w1, w1', c1, c2, c3, c4, c5, c6', c7, hmi, ti99, ti3, aconv, aconvert, ashift, IntKind.bits]; omega))); clear hA hB A B) | (refine hB ?_; clear hA hB A B))
      | (refine RQ.nl ?_; refine hk _ _ ?_; clear hk k)
      | (refine RW.nl ?_; refine hk _ _ ?_; clear hk k)
      | (refine RW.st fun A B hA hB => ?_; simp [w0, w0', w1, w1', c1, c2, c3, c4, c5, c6', c7, hmi, ti99, ti3, aconv, aconvert, ashift, IntKind.bits, onW_t, onW_f, onV_s]; first | (refine hA _ _ _ ?_ (by first | exact .inl (by decide) | exact .inr (.inl rfl) | exact .inr (.inr rfl)) (by first | exact .inl (by decide) | exact .inr (.inl (by decide)) | exact .inr (.inr fun s2 => by simp [w0, w0', w1, w1', c1, c2, c3, c4, c5, c6', c7, hmi, ti99, ti3, aconv, aconvert, ashift, IntKind.bits])) ?_; (focus (first | (simp [w0, w0', w1, w1', c1, c2, c3, c4, c5, c6', c7, hmi, ti99, ti3, aconv, aconvert, ashift, IntKind.bits]; done) | (simp [w0, w0', w1, w1', c1, c2, c3, c4, c5, c6', c7, hmi, ti99, ti3, aconv, aconvert, ashift, IntKind.bits]; omega))); clear hA hB A B) | (refine hB ?_; clear hA hB A B))
      | (refine RQ.st fun A B hA hB => ?_; simp [w0, w0', w1, w1', c1, c2, c3, c4, c5, c6', c7, hmi, ti99, ti3, aconv, aconvert, ashift, IntKind.bits, onW_t, onW_f, onV_s]; first | (refine hA _ _ _ ?_ (by first | exact .inl rfl | exact .inr (by decide)) ?_; (focus (first | (simp [w0, w0', w1, w1', c1, c2, c3, c4, c5, c6', c7, hmi, ti99, ti3, aconv, aconvert, ashift, IntKind.bits]; done) | (simp [w0, w0', w1, w1', c1, c2, c3, c4, c5, c6', c7, hmi, ti99, ti3, aconv, aconvert, ashift, IntKind.bits]; omega))); clear hA hB A B) | (refine hB ?_; clear hA hB A B))
      | refine WP.sr fun k hk => ?_ | refine WP.r fun k hk => ?_ | refine WP.sd _ rfl fun k hk => ?_ | refine WP.d _ rfl fun k hk => ?_
      | (refine WP.cc fun A B hA hB => ?_; simp [w0, w0', w1, w1', c1, c2, c3, c4, c5, c6', c7, hmi, ti99, ti3, aconv, aconvert, ashift, IntKind.bits, onB_t, onB_f]; first | (refine hA ?_; clear hA hB A B) | (refine hB ?_; clear hA hB A B) | (refine onB_if (fun h => hA ?_) (fun h => hB ?_) <;> clear hA hB A B))
      | refine WP.q ?_ | refine WP.b ?_)
    refine WP_loop (fun q T s' => ∃ (i j : Nat), q = j - i ∧ i0 ≤ i ∧ i ≤ j ∧ j ≤ j0 ∧ s' = s.put id (rowO D) ∧ (∃ n, j - i ≤ n ∧ bs (fun c => !decide (cmpT (gD D (pp - c)) (gD D c) < 0)) n i j = st) ∧ T.get 0 = .ls id 0 D.length ∧ T.get 1 = .int .i64 a ∧ T.get 2 = .int .i64 m ∧ T.get 3 = .int .i64 b ∧ T.get 4 = .fn (.func 11) [] [] ∧ T.get 18 = .int .i64 mid ∧ T.get 19 = .int .i64 nn ∧ T.get 22 = .int .i64 pp ∧ T.get 20 = .int .i64 i ∧ T.get 21 = .int .i64 j)
      (j0 - i0) ⟨i0, j0, rfl, Nat.le_refl _, by omega, Nat.le_refl _, (St.put_self hs).symm, ⟨_, Nat.le_refl _, hst⟩, by simp, by simp, by simp, by simp, by simp, by simp, by simp, by simp, by simp, by simp [hj0']⟩ ?_
    rintro q T s' ⟨i, j, hqq, hai, hij, hjb, rfl, ⟨n, hn, hbs⟩, g0, g1, g2, g3, g4, g18, g19, g22, g20, g21⟩
    by_cases hlt : i < j
    · have hlti : (i : Int) < (j : Int) := by omega
      obtain ⟨n, rfl⟩ : ∃ r, n = r + 1 := ⟨n - 1, by omega⟩
      generalize hdd : (i + j) / 2 = d at *
      have d1 : IntKind.i64.wrap ((i : Int) + (j : Int)) = (i : Int) + (j : Int) := wrap64 (by omega) (by omega)
      have d2 : IntKind.u64.wrap ((i : Int) + (j : Int)) = (i : Int) + (j : Int) := wrapu (by omega) (by omega)
      have d3 : ((i : Int) + (j : Int)).fdiv 2 = (d : Int) := by rw [Int.fdiv_eq_ediv_of_nonneg _ (by omega)]; omega
      have d4 : IntKind.i64.wrap (d : Int) = (d : Int) := wrap64 (by omega) (by omega)
      have d5 : IntKind.i64.wrap ((d : Int) + 1) = (d : Int) + 1 := wrap64 (by omega) (by omega)
      have i1 : d < D.length := by omega
      have hpd : d ≤ pp := by omega
      have i2 : pp - d < D.length := by omega
      have d6 : IntKind.i64.wrap ((pp : Int) - (d : Int)) = ((pp - d : Nat) : Int) := by rw [wrap64 (by omega) (by omega)]; omega
      have p1 : (d : Int) < (D.length : Int) := by omega
      have p2 : ((pp - d : Nat) : Int) < (D.length : Int) := by omega
      have hx := encD_get i1
      have hy := encD_get i2
      have ox := hok _ (List.getElem_mem i1)
      have oy := hok _ (List.getElem_mem i2)
      have e1 := gD_of i1
      have e2 := gD_of i2
      have p3 : 0 < K := hK
      by_cases hc : cmpT (gD D (pp - d)) (gD D d) < 0
      · rw [bs_no hlt (by rw [hdd]; simp [hc]), hdd] at hbs
        rw [e1, e2] at hc
        generalize hpdd : pp - d = pd at *
        generalize D[d] = x at *
        generalize D[pd] = y at *
        have rwx : Rw x = [.sl (x.map V.cs)] := rfl
        have rwy : Rw y = [.sl (y.map V.cs)] := rfl
        have hcm := hcmp y x (s.put id (rowO D)) oy ox
        repeat' (first
          | refine WP.t ?_ | refine WP.k ?_ | refine WP.e ?_ | refine Qn ?_ | refine Qr ?_ | refine Qe ?_ | refine Bn ?_ | refine Br ?_ | refine Be ?_ | refine Bx (by decide) ?_
          | (refine RS.nl ?_; refine hk _ _ ?_; clear hk k)
          | (refine RS.st fun A B hA hB => ?_; simp [hcm, g0, g1, g2, g3, g4, g18, g19, g20, g21, g22, hlti, d1, d2, d3, d4, d5, d6, p1, p2, p3, hx, hy, rwx, rwy, hc, ti36, ti22, ti99, ti3, elemOfT, aindex, aconv, aconvert, ashift, IntKind.bits, aunop, St.get_put_same, onW_t, onW_f, onV_s]; first | (refine hA _ _ _ ?_ ?_; (focus (first | (simp [hcm, g0, g1, g2, g3, g4, g18, g19, g20, g21, g22, hlti, d1, d2, d3, d4, d5, d6, p1, p2, p3, hx, hy, rwx, rwy, hc, ti36, ti22, ti99, ti3, elemOfT, aindex, aconv, aconvert, ashift, IntKind.bits, aunop, St.get_put_same]; done) | (simp [hcm, g0, g1, g2, g3, g4, g18, g19, g20, g21, g22, hlti, d1, d2, d3, d4, d5, d6, p1, p2, p3, hx, hy, rwx, rwy, hc, ti36, ti22, ti99, ti3, elemOfT, aindex, aconv, aconvert, ashift, IntKind.bits, aunop, St.get_put_same]; omega))); clear hA hB A B) | (refine hB ?_; clear hA hB A B))
          | (refine RQ.nl ?_; refine hk _ _ ?_; clear hk k)
          | (refine RW.nl ?_; refine hk _ _ ?_; clear hk k)
          | (refine RW.st fun A B hA hB => ?_; simp [hcm, g0, g1, g2, g3, g4, g18, g19, g20, g21, g22, hlti, d1, d2, d3, d4, d5, d6, p1, p2, p3, hx, hy, rwx, rwy, hc, ti36, ti22, ti99, ti3, elemOfT, aindex, aconv, aconvert, ashift, IntKind.bits, aunop, St.get_put_same, onW_t, onW_f, onV_s]; first | (refine hA _ _ _ ?_ (by first | exact .inl (by decide) | exact .inr (.inl rfl) | exact .inr (.inr rfl)) (by first | exact .inl (by decide) | exact .inr (.inl (by decide)) | exact .inr (.inr fun s2 => by simp [hcm, g0, g1, g2, g3, g4, g18, g19, g20, g21, g22, hlti, d1, d2, d3, d4, d5, d6, p1, p2, p3, hx, hy, rwx, rwy, hc, ti36, ti22, ti99, ti3, elemOfT, aindex, aconv, aconvert, ashift, IntKind.bits, aunop, St.get_put_same])) ?_; (focus (first | (simp [hcm, g0, g1, g2, g3, g4, g18, g19, g20, g21, g22, hlti, d1, d2, d3, d4, d5, d6, p1, p2, p3, hx, hy, rwx, rwy, hc, ti36, ti22, ti99, ti3, elemOfT, aindex, aconv, aconvert, ashift, IntKind.bits, aunop, St.get_put_same]; done) | (simp [hcm, g0, g1, g2, g3, g4, g18, g19, g20, g21, g22, hlti, d1, d2, d3, d4, d5, d6, p1, p2, p3, hx, hy, rwx, rwy, hc, ti36, ti22, ti99, ti3, elemOfT, aindex, aconv, aconvert, ashift, IntKind.bits, aunop, St.get_put_same]; omega))); clear hA hB A B) | (refine hB ?_; clear hA hB A B))
          | (refine RQ.st fun A B hA hB => ?_; simp [hcm, g0, g1, g2, g3, g4, g18, g19, g20, g21, g22, hlti, d1, d2, d3, d4, d5, d6, p1, p2, p3, hx, hy, rwx, rwy, hc, ti36, ti22, ti99, ti3, elemOfT, aindex, aconv, aconvert, ashift, IntKind.bits, aunop, St.get_put_same, onW_t, onW_f, onV_s]; first | (refine hA _ _ _ ?_ (by first | exact .inl rfl | exact .inr (by decide)) ?_; (focus (first | (simp [hcm, g0, g1, g2, g3, g4, g18, g19, g20, g21, g22, hlti, d1, d2, d3, d4, d5, d6, p1, p2, p3, hx, hy, rwx, rwy, hc, ti36, ti22, ti99, ti3, elemOfT, aindex, aconv, aconvert, ashift, IntKind.bits, aunop, St.get_put_same]; done) | (simp [hcm, g0, g1, g2, g3, g4, g18, g19, g20, g21, g22, hlti, d1, d2, d3, d4, d5, d6, p1, p2, p3, hx, hy, rwx, rwy, hc, ti36, ti22, ti99, ti3, elemOfT, aindex, aconv, aconvert, ashift, IntKind.bits, aunop, St.get_put_same]; omega))); clear hA hB A B) | (refine hB ?_; clear hA hB A B))
          | refine WP.sr fun k hk => ?_ | refine WP.r fun k hk => ?_ | refine WP.sd _ rfl fun k hk => ?_ | refine WP.d _ rfl fun k hk => ?_
          | (refine WP.cc fun A B hA hB => ?_; simp [hcm, g0, g1, g2, g3, g4, g18, g19, g20, g21, g22, hlti, d1, d2, d3, d4, d5, d6, p1, p2, p3, hx, hy, rwx, rwy, hc, ti36, ti22, ti99, ti3, elemOfT, aindex, aconv, aconvert, ashift, IntKind.bits, aunop, St.get_put_same, onB_t, onB_f]; first | (refine hA ?_; clear hA hB A B) | (refine hB ?_; clear hA hB A B) | (refine onB_if (fun h => hA ?_) (fun h => hB ?_) <;> clear hA hB A B))
          | refine WP.q ?_ | refine WP.b ?_)
        exact ⟨d - i, by omega, i, d, rfl, hai, by omega, by omega, rfl, ⟨n, by omega, hbs⟩, by simp [g0], by simp [g1], by simp [g2], by simp [g3], by simp [g4], by simp [g18], by simp [g19], by simp [g22], by simp [g20], by simp⟩
      · rw [bs_yes hlt (by rw [hdd]; simp [hc]), hdd] at hbs
        rw [e1, e2] at hc
        generalize hpdd : pp - d = pd at *
        generalize D[d] = x at *
        generalize D[pd] = y at *
        have rwx : Rw x = [.sl (x.map V.cs)] := rfl
        have rwy : Rw y = [.sl (y.map V.cs)] := rfl
        have hcm := hcmp y x (s.put id (rowO D)) oy ox
        repeat' (first
          | refine WP.t ?_ | refine WP.k ?_ | refine WP.e ?_ | refine Qn ?_ | refine Qr ?_ | refine Qe ?_ | refine Bn ?_ | refine Br ?_ | refine Be ?_ | refine Bx (by decide) ?_
          | (refine RS.nl ?_; refine hk _ _ ?_; clear hk k)
          | (refine RS.st fun A B hA hB => ?_; simp [hcm, g0, g1, g2, g3, g4, g18, g19, g20, g21, g22, hlti, d1, d2, d3, d4, d5, d6, p1, p2, p3, hx, hy, rwx, rwy, hc, ti36, ti22, ti99, ti3, elemOfT, aindex, aconv, aconvert, ashift, IntKind.bits, aunop, St.get_put_same, onW_t, onW_f, onV_s]; first | (refine hA _ _ _ ?_ ?_; (focus (first | (simp [hcm, g0, g1, g2, g3, g4, g18, g19, g20, g21, g22, hlti, d1, d2, d3, d4, d5, d6, p1, p2, p3, hx, hy, rwx, rwy, hc, ti36, ti22, ti99, ti3, elemOfT, aindex, aconv, aconvert, ashift, IntKind.bits, aunop, St.get_put_same]; done) | (simp [hcm, g0, g1, g2, g3, g4, g18, g19, g20, g21, g22, hlti, d1, d2, d3, d4, d5, d6, p1, p2, p3, hx, hy, rwx, rwy, hc, ti36, ti22, ti99, ti3, elemOfT, aindex, aconv, aconvert, ashift, IntKind.bits, aunop, St.get_put_same]; omega))); clear hA hB A B) | (refine hB ?_; clear hA hB A B))
          | (refine RQ.nl ?_; refine hk _ _ ?_; clear hk k)
          | (refine RW.nl ?_; refine hk _ _ ?_; clear hk k)
          | (refine RW.st fun A B hA hB => ?_; simp [hcm, g0, g1, g2, g3, g4, g18, g19, g20, g21, g22, hlti, d1, d2, d3, d4, d5, d6, p1, p2, p3, hx, hy, rwx, rwy, hc, ti36, ti22, ti99, ti3, elemOfT, aindex, aconv, aconvert, ashift, IntKind.bits, aunop, St.get_put_same, onW_t, onW_f, onV_s]; first | (refine hA _ _ _ ?_ (by first | exact .inl (by decide) | exact .inr (.inl rfl) | exact .inr (.inr rfl)) (by first | exact .inl (by decide) | exact .inr (.inl (by decide)) | exact .inr (.inr fun s2 => by simp [hcm, g0, g1, g2, g3, g4, g18, g19, g20, g21, g22, hlti, d1, d2, d3, d4, d5, d6, p1, p2, p3, hx, hy, rwx, rwy, hc, ti36, ti22, ti99, ti3, elemOfT, aindex, aconv, aconvert, ashift, IntKind.bits, aunop, St.get_put_same])) ?_; (focus (first | (simp [hcm, g0, g1, g2, g3, g4, g18, g19, g20, g21, g22, hlti, d1, d2, d3, d4, d5, d6, p1, p2, p3, hx, hy, rwx, rwy, hc, ti36, ti22, ti99, ti3, elemOfT, aindex, aconv, aconvert, ashift, IntKind.bits, aunop, St.get_put_same]; done) | (simp [hcm, g0, g1, g2, g3, g4, g18, g19, g20, g21, g22, hlti, d1, d2, d3, d4, d5, d6, p1, p2, p3, hx, hy, rwx, rwy, hc, ti36, ti22, ti99, ti3, elemOfT, aindex, aconv, aconvert, ashift, IntKind.bits, aunop, St.get_put_same]; omega))); clear hA hB A B) | (refine hB ?_; clear hA hB A B))
          | (refine RQ.st fun A B hA hB => ?_; simp [hcm, g0, g1, g2, g3, g4, g18, g19, g20, g21, g22, hlti, d1, d2, d3, d4, d5, d6, p1, p2, p3, hx, hy, rwx, rwy, hc, ti36, ti22, ti99, ti3, elemOfT, aindex, aconv, aconvert, ashift, IntKind.bits, aunop, St.get_put_same, onW_t, onW_f, onV_s]; first | (refine hA _ _ _ ?_ (by first | exact .inl rfl | exact .inr (by decide)) ?_; (focus (first | (simp [hcm, g0, g1, g2, g3, g4, g18, g19, g20, g21, g22, hlti, d1, d2, d3, d4, d5, d6, p1, p2, p3, hx, hy, rwx, rwy, hc, ti36, ti22, ti99, ti3, elemOfT, aindex, aconv, aconvert, ashift, IntKind.bits, aunop, St.get_put_same]; done) | (simp [hcm, g0, g1, g2, g3, g4, g18, g19, g20, g21, g22, hlti, d1, d2, d3, d4, d5, d6, p1, p2, p3, hx, hy, rwx, rwy, hc, ti36, ti22, ti99, ti3, elemOfT, aindex, aconv, aconvert, ashift, IntKind.bits, aunop, St.get_put_same]; omega))); clear hA hB A B) | (refine hB ?_; clear hA hB A B))
          | refine WP.sr fun k hk => ?_ | refine WP.r fun k hk => ?_ | refine WP.sd _ rfl fun k hk => ?_ | refine WP.d _ rfl fun k hk => ?_
          | (refine WP.cc fun A B hA hB => ?_; simp [hcm, g0, g1, g2, g3, g4, g18, g19, g20, g21, g22, hlti, d1, d2, d3, d4, d5, d6, p1, p2, p3, hx, hy, rwx, rwy, hc, ti36, ti22, ti99, ti3, elemOfT, aindex, aconv, aconvert, ashift, IntKind.bits, aunop, St.get_put_same, onB_t, onB_f]; first | (refine hA ?_; clear hA hB A B) | (refine hB ?_; clear hA hB A B) | (refine onB_if (fun h => hA ?_) (fun h => hB ?_) <;> clear hA hB A B))
          | refine WP.q ?_ | refine WP.b ?_)
        exact ⟨j - (d + 1), by omega, d + 1, j, rfl, by omega, by omega, hjb, rfl, ⟨n, by omega, hbs⟩, by simp [g0], by simp [g1], by simp [g2], by simp [g3], by simp [g4], by simp [g18], by simp [g19], by simp [g22], by simp, by simp [g21]⟩
    · have hlti : ¬ (i : Int) < (j : Int) := by omega
      rw [bs_end hlt] at hbs
      subst hbs
      have e24 : IntKind.i64.wrap ((nn : Int) - (i : Int)) = ((nn - i : Nat) : Int) := by rw [wrap64 (by omega) (by omega)]; omega
      generalize hen : nn - i = en at *
      have o0 := okB_iff.2 hok
      have o1 : okB (rotF m (en - i) (m - i) (en - m) D) = true := okB_iff.2 (rotF_ok m _ _ _ hok)
      have l1 : (rotF m (en - i) (m - i) (en - m) D).length = D.length := rotF_length m _ _ _ _
      generalize hD1 : rotF m (en - i) (m - i) (en - m) D = R1 at *
      have o2 : ∀ X : Rows0, okB X = true → okB (symF qn a i mid X) = true := fun X h => okB_iff.2 (symF_ok _ _ _ _ (okB_iff.1 h))
      have l2 : ∀ X : Rows0, (symF qn a i mid X).length = X.length := fun X => symF_length _ _ _ _ _
      have enb : en ≤ b := by omega
      have z1 : (mid : Int) - (a : Int) ≤ (qn : Int) := by omega
      have z2 : (b : Int) - (mid : Int) ≤ (qn : Int) := by omega
      have z3 : (mid : Int) ≤ (D.length : Int) := by omega
      have z4 : (b : Int) ≤ (D.length : Int) := by omega
      have z5 : (en : Int) ≤ (D.length : Int) := by omega
      by_cases k1 : i < m <;> by_cases k2 : i < mid <;> by_cases k3 : a < i <;> by_cases k6 : en < b
      all_goals
        have k1' : (i : Int) < (m : Int) ↔ i < m := by omega
        have k2' : (i : Int) < (mid : Int) ↔ i < mid := by omega
        have k3' : (a : Int) < (i : Int) ↔ a < i := by omega
        have k6' : (en : Int) < (b : Int) ↔ en < b := by omega
        have k4' : (m : Int) < (en : Int) ↔ i < mid := by omega
        have k5' : (mid : Int) < (en : Int) ↔ i < m := by omega
        have k4'' : m < en ↔ i < mid := by omega
        have k5'' : mid < en ↔ i < m := by omega
        simp only [k4'', k5'']
        simp only [k1, k2, k3, k6, iff_true, iff_false] at k1' k2' k3' k4' k5' k6'
        simp only [k1, k2, k3, k6, and_self, and_true, true_and, and_false, false_and, if_true, if_false]
        repeat' (first
          | refine WP.t ?_ | refine WP.k ?_ | refine WP.e ?_ | refine Qn ?_ | refine Qr ?_ | refine Qe ?_ | refine Bn ?_ | refine Br ?_ | refine Be ?_ | refine Bx (by decide) ?_
          | (refine RS.nl ?_; refine hk _ _ ?_; clear hk k)
          | (refine RS.st fun A B hA hB => ?_; simp [hrot, hsym, gRot, gSym, g0, g1, g2, g3, g4, g18, g19, g20, g21, g22, hlti, hid, hl, e24, k1', k2', k3', k4', k5', k6', o0, o1, o2, l1, l2, z1, z2, z3, z4, z5, hD1, St.get_put_same, onW_t, onW_f, onV_s]; first | (refine hA _ _ _ ?_ ?_; (focus (first | (simp [hrot, hsym, gRot, gSym, g0, g1, g2, g3, g4, g18, g19, g20, g21, g22, hlti, hid, hl, e24, k1', k2', k3', k4', k5', k6', o0, o1, o2, l1, l2, z1, z2, z3, z4, z5, hD1, St.get_put_same]; done) | (simp [hrot, hsym, gRot, gSym, g0, g1, g2, g3, g4, g18, g19, g20, g21, g22, hlti, hid, hl, e24, k1', k2', k3', k4', k5', k6', o0, o1, o2, l1, l2, z1, z2, z3, z4, z5, hD1, St.get_put_same]; omega))); clear hA hB A B) | (refine hB ?_; clear hA hB A B))
          | (refine RQ.nl ?_; refine hk _ _ ?_; clear hk k)
          | (refine RW.nl ?_; refine hk _ _ ?_; clear hk k)
          | (refine RW.st fun A B hA hB => ?_; simp [hrot, hsym, gRot, gSym, g0, g1, g2, g3, g4, g18, g19, g20, g21, g22, hlti, hid, hl, e24, k1', k2', k3', k4', k5', k6', o0, o1, o2, l1, l2, z1, z2, z3, z4, z5, hD1, St.get_put_same, onW_t, onW_f, onV_s]; first | (refine hA _ _ _ ?_ (by first | exact .inl (by decide) | exact .inr (.inl rfl) | exact .inr (.inr rfl)) (by first | exact .inl (by decide) | exact .inr (.inl (by decide)) | exact .inr (.inr fun s2 => by simp [hrot, hsym, gRot, gSym, g0, g1, g2, g3, g4, g18, g19, g20, g21, g22, hlti, hid, hl, e24, k1', k2', k3', k4', k5', k6', o0, o1, o2, l1, l2, z1, z2, z3, z4, z5, hD1, St.get_put_same])) ?_; (focus (first | (simp [hrot, hsym, gRot, gSym, g0, g1, g2, g3, g4, g18, g19, g20, g21, g22, hlti, hid, hl, e24, k1', k2', k3', k4', k5', k6', o0, o1, o2, l1, l2, z1, z2, z3, z4, z5, hD1, St.get_put_same]; done) | (simp [hrot, hsym, gRot, gSym, g0, g1, g2, g3, g4, g18, g19, g20, g21, g22, hlti, hid, hl, e24, k1', k2', k3', k4', k5', k6', o0, o1, o2, l1, l2, z1, z2, z3, z4, z5, hD1, St.get_put_same]; omega))); clear hA hB A B) | (refine hB ?_; clear hA hB A B))
          | (refine RQ.st fun A B hA hB => ?_; simp [hrot, hsym, gRot, gSym, g0, g1, g2, g3, g4, g18, g19, g20, g21, g22, hlti, hid, hl, e24, k1', k2', k3', k4', k5', k6', o0, o1, o2, l1, l2, z1, z2, z3, z4, z5, hD1, St.get_put_same, onW_t, onW_f, onV_s]; first | (refine hA _ _ _ ?_ (by first | exact .inl rfl | exact .inr (by decide)) ?_; (focus (first | (simp [hrot, hsym, gRot, gSym, g0, g1, g2, g3, g4, g18, g19, g20, g21, g22, hlti, hid, hl, e24, k1', k2', k3', k4', k5', k6', o0, o1, o2, l1, l2, z1, z2, z3, z4, z5, hD1, St.get_put_same]; done) | (simp [hrot, hsym, gRot, gSym, g0, g1, g2, g3, g4, g18, g19, g20, g21, g22, hlti, hid, hl, e24, k1', k2', k3', k4', k5', k6', o0, o1, o2, l1, l2, z1, z2, z3, z4, z5, hD1, St.get_put_same]; omega))); clear hA hB A B) | (refine hB ?_; clear hA hB A B))
          | refine WP.sr fun k hk => ?_ | refine WP.r fun k hk => ?_ | refine WP.sd _ rfl fun k hk => ?_ | refine WP.d _ rfl fun k hk => ?_
          | (refine WP.cc fun A B hA hB => ?_; simp [hrot, hsym, gRot, gSym, g0, g1, g2, g3, g4, g18, g19, g20, g21, g22, hlti, hid, hl, e24, k1', k2', k3', k4', k5', k6', o0, o1, o2, l1, l2, z1, z2, z3, z4, z5, hD1, St.get_put_same, onB_t, onB_f]; first | (refine hA ?_; clear hA hB A B) | (refine hB ?_; clear hA hB A B) | (refine onB_if (fun h => hA ?_) (fun h => hB ?_) <;> clear hA hB A B))
          | refine WP.q ?_ | refine WP.b ?_)
        simp only [St.put_put]
        exact finRow (.inl rfl) hid rfl
  · rw [if_neg hmm] at hi0 hj0
    have hj0' : (m : Int) = (j0 : Int) := by omega
    have c6' : (a : Int) = (i0 : Int) := by omega
    have hmi : ¬ (mid : Int) < (m : Int) := by omega
    unfold symS at hst
    rw [hpp] at hst
    repeat' (first
      | refine WP.t ?_ | refine WP.k ?_ | refine WP.e ?_ | refine Qn ?_ | refine Qr ?_ | refine Qe ?_ | refine Bn ?_ | refine Br ?_ | refine Be ?_ | refine Bx (by decide) ?_
      | (refine RS.nl ?_; refine hk _ _ ?_; clear hk k)
      | (refine RS.st fun A B hA hB => ?_; simp [w0, w0', w1, w1', c1, c2, c3, c4, c5, c7, hmi, ti99, ti3, aconv, aconvert, ashift, IntKind.bits, onW_t, onW_f, onV_s]; first | (refine hA _ _ _ ?_ ?_; (focus (first | (simp [w0, w0', w1, w1', c1, c2, c3, c4, c5, c7, hmi, ti99, ti3, aconv, aconvert, ashift, IntKind.bits]; done) | (simp [w0, w0', w1, w1', c1, c2, c3, c4, c5, c7, hmi, ti99, ti3, aconv, aconvert, ashift, IntKind.bits]; omega))); clear hA hB A B) | (refine hB ?_; clear hA hB A B))
      | (refine RQ.nl ?_; refine hk _ _ ?_; clear hk k)
      | (refine RW.nl ?_; refine hk _ _ ?_; clear hk k)
      | (refine RW.st fun A B hA hB => ?_; simp [w0, w0', w1, w1', c1, c2, c3, c4, c5, c7, hmi, ti99, ti3, aconv, aconvert, ashift, IntKind.bits, onW_t, onW_f, onV_s]; first | (refine hA _ _ _ ?_ (by first | exact .inl (by decide) | exact .inr (.inl rfl) | exact .inr (.inr rfl)) (by first | exact .inl (by decide) | exact .inr (.inl (by decide)) | exact .inr (.inr fun s2 => by simp [w0, w0', w1, w1', c1, c2, c3, c4, c5, c7, hmi, ti99, ti3, aconv, aconvert, ashift, IntKind.bits])) ?_; (focus (first | (simp [w0, w0', w1, w1', c1, c2, c3, c4, c5, c7, hmi, ti99, ti3, aconv, aconvert, ashift, IntKind.bits]; done) | (simp [w0, w0', w1, w1', c1, c2, c3, c4, c5, c7, hmi, ti99, ti3, aconv, aconvert, ashift, IntKind.bits]; omega))); clear hA hB A B) | (refine hB ?_; clear hA hB A B))
      | (refine RQ.st fun A B hA hB => ?_; simp [w0, w0', w1, w1', c1, c2, c3, c4, c5, c7, hmi, ti99, ti3, aconv, aconvert, ashift, IntKind.bits, onW_t, onW_f, onV_s]; first | (refine hA _ _ _ ?_ (by first | exact .inl rfl | exact .inr (by decide)) ?_; (focus (first | (simp [w0, w0', w1, w1', c1, c2, c3, c4, c5, c7, hmi, ti99, ti3, aconv, aconvert, ashift, IntKind.bits]; done) | (simp [w0, w0', w1, w1', c1, c2, c3, c4, c5, c7, hmi, ti99, ti3, aconv, aconvert, ashift, IntKind.bits]; omega))); clear hA hB A B) | (refine hB ?_; clear hA hB A B))
      | refine WP.sr fun k hk => ?_ | refine WP.r fun k hk => ?_ | refine WP.sd _ rfl fun k hk => ?_ | refine WP.d _ rfl fun k hk => ?_
      | (refine WP.cc fun A B hA hB => ?_; simp [w0, w0', w1, w1', c1, c2, c3, c4, c5, c7, hmi, ti99, ti3, aconv, aconvert, ashift, IntKind.bits, onB_t, onB_f]; first | (refine hA ?_; clear hA hB A B) | (refine hB ?_; clear hA hB A B) | (refine onB_if (fun h => hA ?_) (fun h => hB ?_) <;> clear hA hB A B))
      | refine WP.q ?_ | refine WP.b ?_)
    refine WP_loop (fun q T s' => ∃ (i j : Nat), q = j - i ∧ i0 ≤ i ∧ i ≤ j ∧ j ≤ j0 ∧ s' = s.put id (rowO D) ∧ (∃ n, j - i ≤ n ∧ bs (fun c => !decide (cmpT (gD D (pp - c)) (gD D c) < 0)) n i j = st) ∧ T.get 0 = .ls id 0 D.length ∧ T.get 1 = .int .i64 a ∧ T.get 2 = .int .i64 m ∧ T.get 3 = .int .i64 b ∧ T.get 4 = .fn (.func 11) [] [] ∧ T.get 18 = .int .i64 mid ∧ T.get 19 = .int .i64 nn ∧ T.get 22 = .int .i64 pp ∧ T.get 20 = .int .i64 i ∧ T.get 21 = .int .i64 j)
      (j0 - i0) ⟨i0, j0, rfl, Nat.le_refl _, by omega, Nat.le_refl _, (St.put_self hs).symm, ⟨_, Nat.le_refl _, hst⟩, by simp, by simp, by simp, by simp, by simp, by simp, by simp, by simp, by simp [c6'], by simp [hj0']⟩ ?_
    rintro q T s' ⟨i, j, hqq, hai, hij, hjb, rfl, ⟨n, hn, hbs⟩, g0, g1, g2, g3, g4, g18, g19, g22, g20, g21⟩
    by_cases hlt : i < j
    · have hlti : (i : Int) < (j : Int) := by omega
      obtain ⟨n, rfl⟩ : ∃ r, n = r + 1 := ⟨n - 1, by omega⟩
      generalize hdd : (i + j) / 2 = d at *
      have d1 : IntKind.i64.wrap ((i : Int) + (j : Int)) = (i : Int) + (j : Int) := wrap64 (by omega) (by omega)
      have d2 : IntKind.u64.wrap ((i : Int) + (j : Int)) = (i : Int) + (j : Int) := wrapu (by omega) (by omega)
      have d3 : ((i : Int) + (j : Int)).fdiv 2 = (d : Int) := by rw [Int.fdiv_eq_ediv_of_nonneg _ (by omega)]; omega
      have d4 : IntKind.i64.wrap (d : Int) = (d : Int) := wrap64 (by omega) (by omega)
      have d5 : IntKind.i64.wrap ((d : Int) + 1) = (d : Int) + 1 := wrap64 (by omega) (by omega)
      have i1 : d < D.length := by omega
      have hpd : d ≤ pp := by omega
      have i2 : pp - d < D.length := by omega
      have d6 : IntKind.i64.wrap ((pp : Int) - (d : Int)) = ((pp - d : Nat) : Int) := by rw [wrap64 (by omega) (by omega)]; omega
      have p1 : (d : Int) < (D.length : Int) := by omega
      have p2 : ((pp - d : Nat) : Int) < (D.length : Int) := by omega
      have hx := encD_get i1
      have hy := encD_get i2
      have ox := hok _ (List.getElem_mem i1)
      have oy := hok _ (List.getElem_mem i2)
      have e1 := gD_of i1
      have e2 := gD_of i2
      have p3 : 0 < K := hK
      by_cases hc : cmpT (gD D (pp - d)) (gD D d) < 0
      · rw [bs_no hlt (by rw [hdd]; simp [hc]), hdd] at hbs
        rw [e1, e2] at hc
        generalize hpdd : pp - d = pd at *
        generalize D[d] = x at *
        generalize D[pd] = y at *
        have rwx : Rw x = [.sl (x.map V.cs)] := rfl
        have rwy : Rw y = [.sl (y.map V.cs)] := rfl
        have hcm := hcmp y x (s.put id (rowO D)) oy ox
        repeat' (first
          | refine WP.t ?_ | refine WP.k ?_ | refine WP.e ?_ | refine Qn ?_ | refine Qr ?_ | refine Qe ?_ | refine Bn ?_ | refine Br ?_ | refine Be ?_ | refine Bx (by decide) ?_
          | (refine RS.nl ?_; refine hk _ _ ?_; clear hk k)
          | (refine RS.st fun A B hA hB => ?_; simp [hcm, g0, g1, g2, g3, g4, g18, g19, g20, g21, g22, hlti, d1, d2, d3, d4, d5, d6, p1, p2, p3, hx, hy, rwx, rwy, hc, ti36, ti22, ti99, ti3, elemOfT, aindex, aconv, aconvert, ashift, IntKind.bits, aunop, St.get_put_same, onW_t, onW_f, onV_s]; first | (refine hA _ _ _ ?_ ?_; (focus (first | (simp [hcm, g0, g1, g2, g3, g4, g18, g19, g20, g21, g22, hlti, d1, d2, d3, d4, d5, d6, p1, p2, p3, hx, hy, rwx, rwy, hc, ti36, ti22, ti99, ti3, elemOfT, aindex, aconv, aconvert, ashift, IntKind.bits, aunop, St.get_put_same]; done) | (simp [hcm, g0, g1, g2, g3, g4, g18, g19, g20, g21, g22, hlti, d1, d2, d3, d4, d5, d6, p1, p2, p3, hx, hy, rwx, rwy, hc, ti36, ti22, ti99, ti3, elemOfT, aindex, aconv, aconvert, ashift, IntKind.bits, aunop, St.get_put_same]; omega))); clear hA hB A B) | (refine hB ?_; clear hA hB A B))
          | (refine RQ.nl ?_; refine hk _ _ ?_; clear hk k)
          | (refine RW.nl ?_; refine hk _ _ ?_; clear hk k)
          | (refine RW.st fun A B hA hB => ?_; simp [hcm, g0, g1, g2, g3, g4, g18, g19, g20, g21, g22, hlti, d1, d2, d3, d4, d5, d6, p1, p2, p3, hx, hy, rwx, rwy, hc, ti36, ti22, ti99, ti3, elemOfT, aindex, aconv, aconvert, ashift, IntKind.bits, aunop, St.get_put_same, onW_t, onW_f, onV_s]; first | (refine hA _ _ _ ?_ (by first | exact .inl (by decide) | exact .inr (.inl rfl) | exact .inr (.inr rfl)) (by first | exact .inl (by decide) | exact .inr (.inl (by decide)) | exact .inr (.inr fun s2 => by simp [hcm, g0, g1, g2, g3, g4, g18, g19, g20, g21, g22, hlti, d1, d2, d3, d4, d5, d6, p1, p2, p3, hx, hy, rwx, rwy, hc, ti36, ti22, ti99, ti3, elemOfT, aindex, aconv, aconvert, ashift, IntKind.bits, aunop, St.get_put_same])) ?_; (focus (first | (simp [hcm, g0, g1, g2, g3, g4, g18, g19, g20, g21, g22, hlti, d1, d2, d3, d4, d5, d6, p1, p2, p3, hx, hy, rwx, rwy, hc, ti36, ti22, ti99, ti3, elemOfT, aindex, aconv, aconvert, ashift, IntKind.bits, aunop, St.get_put_same]; done) | (simp [hcm, g0, g1, g2, g3, g4, g18, g19, g20, g21, g22, hlti, d1, d2, d3, d4, d5, d6, p1, p2, p3, hx, hy, rwx, rwy, hc, ti36, ti22, ti99, ti3, elemOfT, aindex, aconv, aconvert, ashift, IntKind.bits, aunop, St.get_put_same]; omega))); clear hA hB A B) | (refine hB ?_; clear hA hB A B))
          | (refine RQ.st fun A B hA hB => ?_; simp [hcm, g0, g1, g2, g3, g4, g18, g19, g20, g21, g22, hlti, d1, d2, d3, d4, d5, d6, p1, p2, p3, hx, hy, rwx, rwy, hc, ti36, ti22, ti99, ti3, elemOfT, aindex, aconv, aconvert, ashift, IntKind.bits, aunop, St.get_put_same, onW_t, onW_f, onV_s]; first | (refine hA _ _ _ ?_ (by first | exact .inl rfl | exact .inr (by decide)) ?_; (focus (first | (simp [hcm, g0, g1, g2, g3, g4, g18, g19, g20, g21, g22, hlti, d1, d2, d3, d4, d5, d6, p1, p2, p3, hx, hy, rwx, rwy, hc, ti36, ti22, ti99, ti3, elemOfT, aindex, aconv, aconvert, ashift, IntKind.bits, aunop, St.get_put_same]; done) | (simp [hcm, g0, g1, g2, g3, g4, g18, g19, g20, g21, g22, hlti, d1, d2, d3, d4, d5, d6, p1, p2, p3, hx, hy, rwx, rwy, hc, ti36, ti22, ti99, ti3, elemOfT, aindex, aconv, aconvert, ashift, IntKind.bits, aunop, St.get_put_same]; omega))); clear hA hB A B) | (refine hB ?_; clear hA hB A B))
          | refine WP.sr fun k hk => ?_ | refine WP.r fun k hk => ?_ | refine WP.sd _ rfl fun k hk => ?_ | refine WP.d _ rfl fun k hk => ?_
          | (refine WP.cc fun A B hA hB => ?_; simp [hcm, g0, g1, g2, g3, g4, g18, g19, g20, g21, g22, hlti, d1, d2, d3, d4, d5, d6, p1, p2, p3, hx, hy, rwx, rwy, hc, ti36, ti22, ti99, ti3, elemOfT, aindex, aconv, aconvert, ashift, IntKind.bits, aunop, St.get_put_same, onB_t, onB_f]; first | (refine hA ?_; clear hA hB A B) | (refine hB ?_; clear hA hB A B) | (refine onB_if (fun h => hA ?_) (fun h => hB ?_) <;> clear hA hB A B))
          | refine WP.q ?_ | refine WP.b ?_)
        exact ⟨d - i, by omega, i, d, rfl, hai, by omega, by omega, rfl, ⟨n, by omega, hbs⟩, by simp [g0], by simp [g1], by simp [g2], by simp [g3], by simp [g4], by simp [g18], by simp [g19], by simp [g22], by simp [g20], by simp⟩
      · rw [bs_yes hlt (by rw [hdd]; simp [hc]), hdd] at hbs
        rw [e1, e2] at hc
        generalize hpdd : pp - d = pd at *
        generalize D[d] = x at *
        generalize D[pd] = y at *
        have rwx : Rw x = [.sl (x.map V.cs)] := rfl
        have rwy : Rw y = [.sl (y.map V.cs)] := rfl
        have hcm := hcmp y x (s.put id (rowO D)) oy ox
        repeat' (first
          | refine WP.t ?_ | refine WP.k ?_ | refine WP.e ?_ | refine Qn ?_ | refine Qr ?_ | refine Qe ?_ | refine Bn ?_ | refine Br ?_ | refine Be ?_ | refine Bx (by decide) ?_
          | (refine RS.nl ?_; refine hk _ _ ?_; clear hk k)
          | (refine RS.st fun A B hA hB => ?_; simp [hcm, g0, g1, g2, g3, g4, g18, g19, g20, g21, g22, hlti, d1, d2, d3, d4, d5, d6, p1, p2, p3, hx, hy, rwx, rwy, hc, ti36, ti22, ti99, ti3, elemOfT, aindex, aconv, aconvert, ashift, IntKind.bits, aunop, St.get_put_same, onW_t, onW_f, onV_s]; first | (refine hA _ _ _ ?_ ?_; (focus (first | (simp [hcm, g0, g1, g2, g3, g4, g18, g19, g20, g21, g22, hlti, d1, d2, d3, d4, d5, d6, p1, p2, p3, hx, hy, rwx, rwy, hc, ti36, ti22, ti99, ti3, elemOfT, aindex, aconv, aconvert, ashift, IntKind.bits, aunop, St.get_put_same]; done) | (simp [hcm, g0, g1, g2, g3, g4, g18, g19, g20, g21, g22, hlti, d1, d2, d3, d4, d5, d6, p1, p2, p3, hx, hy, rwx, rwy, hc, ti36, ti22, ti99, ti3, elemOfT, aindex, aconv, aconvert, ashift, IntKind.bits, aunop, St.get_put_same]; omega))); clear hA hB A B) | (refine hB ?_; clear hA hB A B))
          | (refine RQ.nl ?_; refine hk _ _ ?_; clear hk k)
          | (refine RW.nl ?_; refine hk _ _ ?_; clear hk k)
          | (refine RW.st fun A B hA hB => ?_; simp [hcm, g0, g1, g2, g3, g4, g18, g19, g20, g21, g22, hlti, d1, d2, d3, d4, d5, d6, p1, p2, p3, hx, hy, rwx, rwy, hc, ti36, ti22, ti99, ti3, elemOfT, aindex, aconv, aconvert, ashift, IntKind.bits, aunop, St.get_put_same, onW_t, onW_f, onV_s]; first | (refine hA _ _ _ ?_ (by first | exact .inl (by decide) | exact .inr (.inl rfl) | exact .inr (.inr rfl)) (by first | exact .inl (by decide) | exact .inr (.inl (by decide)) | exact .inr (.inr fun s2 => by simp [hcm, g0, g1, g2, g3, g4, g18, g19, g20, g21, g22, hlti, d1, d2, d3, d4, d5, d6, p1, p2, p3, hx, hy, rwx, rwy, hc, ti36, ti22, ti99, ti3, elemOfT, aindex, aconv, aconvert, ashift, IntKind.bits, aunop, St.get_put_same])) ?_; (focus (first | (simp [hcm, g0, g1, g2, g3, g4, g18, g19, g20, g21, g22, hlti, d1, d2, d3, d4, d5, d6, p1, p2, p3, hx, hy, rwx, rwy, hc, ti36, ti22, ti99, ti3, elemOfT, aindex, aconv, aconvert, ashift, IntKind.bits, aunop, St.get_put_same]; done) | (simp [hcm, g0, g1, g2, g3, g4, g18, g19, g20, g21, g22, hlti, d1, d2, d3, d4, d5, d6, p1, p2, p3, hx, hy, rwx, rwy, hc, ti36, ti22, ti99, ti3, elemOfT, aindex, aconv, aconvert, ashift, IntKind.bits, aunop, St.get_put_same]; omega))); clear hA hB A B) | (refine hB ?_; clear hA hB A B))
          | (refine RQ.st fun A B hA hB => ?_; simp [hcm, g0, g1, g2, g3, g4, g18, g19, g20, g21, g22, hlti, d1, d2, d3, d4, d5, d6, p1, p2, p3, hx, hy, rwx, rwy, hc, ti36, ti22, ti99, ti3, elemOfT, aindex, aconv, aconvert, ashift, IntKind.bits, aunop, St.get_put_same, onW_t, onW_f, onV_s]; first | (refine hA _ _ _ ?_ (by first | exact .inl rfl | exact .inr (by decide)) ?_; (focus (first | (simp [hcm, g0, g1, g2, g3, g4, g18, g19, g20, g21, g22, hlti, d1, d2, d3, d4, d5, d6, p1, p2, p3, hx, hy, rwx, rwy, hc, ti36, ti22, ti99, ti3, elemOfT, aindex, aconv, aconvert, ashift, IntKind.bits, aunop, St.get_put_same]; done) | (simp [hcm, g0, g1, g2, g3, g4, g18, g19, g20, g21, g22, hlti, d1, d2, d3, d4, d5, d6, p1, p2, p3, hx, hy, rwx, rwy, hc, ti36, ti22, ti99, ti3, elemOfT, aindex, aconv, aconvert, ashift, IntKind.bits, aunop, St.get_put_same]; omega))); clear hA hB A B) | (refine hB ?_; clear hA hB A B))
          | refine WP.sr fun k hk => ?_ | refine WP.r fun k hk => ?_ | refine WP.sd _ rfl fun k hk => ?_ | refine WP.d _ rfl fun k hk => ?_
          | (refine WP.cc fun A B hA hB => ?_; simp [hcm, g0, g1, g2, g3, g4, g18, g19, g20, g21, g22, hlti, d1, d2, d3, d4, d5, d6, p1, p2, p3, hx, hy, rwx, rwy, hc, ti36, ti22, ti99, ti3, elemOfT, aindex, aconv, aconvert, ashift, IntKind.bits, aunop, St.get_put_same, onB_t, onB_f]; first | (refine hA ?_; clear hA hB A B) | (refine hB ?_; clear hA hB A B) | (refine onB_if (fun h => hA ?_) (fun h => hB ?_) <;> clear hA hB A B))
          | refine WP.q ?_ | refine WP.b ?_)
        exact ⟨j - (d + 1), by omega, d + 1, j, rfl, by omega, by omega, hjb, rfl, ⟨n, by omega, hbs⟩, by simp [g0], by simp [g1], by simp [g2], by simp [g3], by simp [g4], by simp [g18], by simp [g19], by simp [g22], by simp, by simp [g21]⟩
    · have hlti : ¬ (i : Int) < (j : Int) := by omega
      rw [bs_end hlt] at hbs
      subst hbs
      have e24 : IntKind.i64.wrap ((nn : Int) - (i : Int)) = ((nn - i : Nat) : Int) := by rw [wrap64 (by omega) (by omega)]; omega
      generalize hen : nn - i = en at *
      have o0 := okB_iff.2 hok
      have o1 : okB (rotF m (en - i) (m - i) (en - m) D) = true := okB_iff.2 (rotF_ok m _ _ _ hok)
      have l1 : (rotF m (en - i) (m - i) (en - m) D).length = D.length := rotF_length m _ _ _ _
      generalize hD1 : rotF m (en - i) (m - i) (en - m) D = R1 at *
      have o2 : ∀ X : Rows0, okB X = true → okB (symF qn a i mid X) = true := fun X h => okB_iff.2 (symF_ok _ _ _ _ (okB_iff.1 h))
      have l2 : ∀ X : Rows0, (symF qn a i mid X).length = X.length := fun X => symF_length _ _ _ _ _
      have enb : en ≤ b := by omega
      have z1 : (mid : Int) - (a : Int) ≤ (qn : Int) := by omega
      have z2 : (b : Int) - (mid : Int) ≤ (qn : Int) := by omega
      have z3 : (mid : Int) ≤ (D.length : Int) := by omega
      have z4 : (b : Int) ≤ (D.length : Int) := by omega
      have z5 : (en : Int) ≤ (D.length : Int) := by omega
      by_cases k1 : i < m <;> by_cases k2 : i < mid <;> by_cases k3 : a < i <;> by_cases k6 : en < b
      all_goals
        have k1' : (i : Int) < (m : Int) ↔ i < m := by omega
        have k2' : (i : Int) < (mid : Int) ↔ i < mid := by omega
        have k3' : (a : Int) < (i : Int) ↔ a < i := by omega
        have k6' : (en : Int) < (b : Int) ↔ en < b := by omega
        have k4' : (m : Int) < (en : Int) ↔ i < mid := by omega
        have k5' : (mid : Int) < (en : Int) ↔ i < m := by omega
        have k4'' : m < en ↔ i < mid := by omega
        have k5'' : mid < en ↔ i < m := by omega
        simp only [k4'', k5'']
        simp only [k1, k2, k3, k6, iff_true, iff_false] at k1' k2' k3' k4' k5' k6'
        simp only [k1, k2, k3, k6, and_self, and_true, true_and, and_false, false_and, if_true, if_false]
        repeat' (first
          | refine WP.t ?_ | refine WP.k ?_ | refine WP.e ?_ | refine Qn ?_ | refine Qr ?_ | refine Qe ?_ | refine Bn ?_ | refine Br ?_ | refine Be ?_ | refine Bx (by decide) ?_
          | (refine RS.nl ?_; refine hk _ _ ?_; clear hk k)
          | (refine RS.st fun A B hA hB => ?_; simp [hrot, hsym, gRot, gSym, g0, g1, g2, g3, g4, g18, g19, g20, g21, g22, hlti, hid, hl, e24, k1', k2', k3', k4', k5', k6', o0, o1, o2, l1, l2, z1, z2, z3, z4, z5, hD1, St.get_put_same, onW_t, onW_f, onV_s]; first | (refine hA _ _ _ ?_ ?_; (focus (first | (simp [hrot, hsym, gRot, gSym, g0, g1, g2, g3, g4, g18, g19, g20, g21, g22, hlti, hid, hl, e24, k1', k2', k3', k4', k5', k6', o0, o1, o2, l1, l2, z1, z2, z3, z4, z5, hD1, St.get_put_same]; done) | (simp [hrot, hsym, gRot, gSym, g0, g1, g2, g3, g4, g18, g19, g20, g21, g22, hlti, hid, hl, e24, k1', k2', k3', k4', k5', k6', o0, o1, o2, l1, l2, z1, z2, z3, z4, z5, hD1, St.get_put_same]; omega))); clear hA hB A B) | (refine hB ?_; clear hA hB A B))
          | (refine RQ.nl ?_; refine hk _ _ ?_; clear hk k)
          | (refine RW.nl ?_; refine hk _ _ ?_; clear hk k)
          | (refine RW.st fun A B hA hB => ?_; simp [hrot, hsym, gRot, gSym, g0, g1, g2, g3, g4, g18, g19, g20, g21, g22, hlti, hid, hl, e24, k1', k2', k3', k4', k5', k6', o0, o1, o2, l1, l2, z1, z2, z3, z4, z5, hD1, St.get_put_same, onW_t, onW_f, onV_s]; first | (refine hA _ _ _ ?_ (by first | exact .inl (by decide) | exact .inr (.inl rfl) | exact .inr (.inr rfl)) (by first | exact .inl (by decide) | exact .inr (.inl (by decide)) | exact .inr (.inr fun s2 => by simp [hrot, hsym, gRot, gSym, g0, g1, g2, g3, g4, g18, g19, g20, g21, g22, hlti, hid, hl, e24, k1', k2', k3', k4', k5', k6', o0, o1, o2, l1, l2, z1, z2, z3, z4, z5, hD1, St.get_put_same])) ?_; (focus (first | (simp [hrot, hsym, gRot, gSym, g0, g1, g2, g3, g4, g18, g19, g20, g21, g22, hlti, hid, hl, e24, k1', k2', k3', k4', k5', k6', o0, o1, o2, l1, l2, z1, z2, z3, z4, z5, hD1, St.get_put_same]; done) | (simp [hrot, hsym, gRot, gSym, g0, g1, g2, g3, g4, g18, g19, g20, g21, g22, hlti, hid, hl, e24, k1', k2', k3', k4', k5', k6', o0, o1, o2, l1, l2, z1, z2, z3, z4, z5, hD1, St.get_put_same]; omega))); clear hA hB A B) | (refine hB ?_; clear hA hB A B))
          | (refine RQ.st fun A B hA hB => ?_; simp [hrot, hsym, gRot, gSym, g0, g1, g2, g3, g4, g18, g19, g20, g21, g22, hlti, hid, hl, e24, k1', k2', k3', k4', k5', k6', o0, o1, o2, l1, l2, z1, z2, z3, z4, z5, hD1, St.get_put_same, onW_t, onW_f, onV_s]; first | (refine hA _ _ _ ?_ (by first | exact .inl rfl | exact .inr (by decide)) ?_; (focus (first | (simp [hrot, hsym, gRot, gSym, g0, g1, g2, g3, g4, g18, g19, g20, g21, g22, hlti, hid, hl, e24, k1', k2', k3', k4', k5', k6', o0, o1, o2, l1, l2, z1, z2, z3, z4, z5, hD1, St.get_put_same]; done) | (simp [hrot, hsym, gRot, gSym, g0, g1, g2, g3, g4, g18, g19, g20, g21, g22, hlti, hid, hl, e24, k1', k2', k3', k4', k5', k6', o0, o1, o2, l1, l2, z1, z2, z3, z4, z5, hD1, St.get_put_same]; omega))); clear hA hB A B) | (refine hB ?_; clear hA hB A B))
          | refine WP.sr fun k hk => ?_ | refine WP.r fun k hk => ?_ | refine WP.sd _ rfl fun k hk => ?_ | refine WP.d _ rfl fun k hk => ?_
          | (refine WP.cc fun A B hA hB => ?_; simp [hrot, hsym, gRot, gSym, g0, g1, g2, g3, g4, g18, g19, g20, g21, g22, hlti, hid, hl, e24, k1', k2', k3', k4', k5', k6', o0, o1, o2, l1, l2, z1, z2, z3, z4, z5, hD1, St.get_put_same, onB_t, onB_f]; first | (refine hA ?_; clear hA hB A B) | (refine hB ?_; clear hA hB A B) | (refine onB_if (fun h => hA ?_) (fun h => hB ?_) <;> clear hA hB A B))
          | refine WP.q ?_ | refine WP.b ?_)
        simp only [St.put_put]
        exact finRow (.inl rfl) hid rfl
theorem bs_le (p : Nat → Bool) : ∀ (n i j : Nat), i ≤ j → i ≤ bs p n i j ∧ bs p n i j ≤ j
  | 0, i, j, h => ⟨Nat.le_refl _, h⟩
  | n + 1, i, j, h => by
    unfold bs
    split
    · split
      · have := bs_le p n ((i + j) / 2 + 1) j (by omega); omega
      · have := bs_le p n i ((i + j) / 2) (by omega); omega
    · exact ⟨Nat.le_refl _, h⟩
def fSym (q : Nat) : Fns := S2.add 64 (gSym q)
theorem fSym_ok (hK : 0 < K) (hT : Tens gw) : ∀ q, FOk (env K gw) (fSym q) := by
  intro q
  induction q with
  | zero =>
    refine (S2_ok hK hT).add fun xs s r s' l h => ?_
    unfold gSym at h
    split at h
    · split at h
      · split at h
        · split at h
          · split at h
            · rename_i hc
              obtain ⟨_, ⟨h1, h2, h3, h4, h5⟩, _⟩ := hc
              omega
            · cases h
          · cases h
        · cases h
      · cases h
    · cases h
  | succ q ih =>
    refine (S2_ok hK hT).add fun xs s r s' l h => ?_
    unfold gSym at h
    split at h
    · rename_i id n a m b
      split at h
      · rename_i hid
        split at h
        · rename_i hs
          split at h
          · rename_i D hD
            split at h
            · rename_i hc
              cases h
              obtain ⟨⟨rfl, hl⟩, ⟨h1, h2, h3, h4, h5⟩, h6⟩ := hc
              rw [decD_eq hD] at hs
              obtain ⟨a, rfl⟩ : ∃ q : Nat, a = q := ⟨a.toNat, (Int.toNat_of_nonneg h1).symm⟩
              obtain ⟨m, rfl⟩ : ∃ q : Nat, m = q := ⟨m.toNat, (Int.toNat_of_nonneg (by omega)).symm⟩
              obtain ⟨b, rfl⟩ : ∃ q : Nat, b = q := ⟨b.toNat, (Int.toNat_of_nonneg (by omega)).symm⟩
              have hcmp : ∀ (x y : List V) (s : St), x.length < LIM → y.length < LIM → fSym q 11 [.sl (x.map V.cs), .sl (y.map V.cs)] s = some (.int .i64 (cmpT x y), s, []) := fun x y s hx hy => by
                simp [fSym, S2, S1, F13, F12, F11, F10, F9, F8, F7, F6, F5, F4, Fns.add, Fns.addP, pCmpT, hx, hy]
              have hrot : ∀ xs s, fSym q 74 xs s = gRot xs s := fun xs s => by simp [fSym, S2, Fns.add]
              have hsym : ∀ xs s, fSym q 64 xs s = gSym q xs s := fun xs s => by simp [fSym, Fns.add]
              have hok := okB_iff.1 h6
              show FT (env K gw) _ 64 _ s _ (s.put id (rowO (symF (q + 1) a m b D)))
              by_cases e1 : m = a + 1
              · subst e1
                by_cases e0 : a + 1 < b
                · have := ft64a hK hT (fSym q) ih hcmp D hid hs a b e0 (by omega) hl hok
                  unfold symF
                  rw [if_pos rfl]
                  exact this
                · omega
              · by_cases e2 : b = m + 1
                · subst e2
                  have := ft64b hK hT (fSym q) ih hcmp D hid hs a m (by omega) (by omega) hl hok
                  unfold symF
                  rw [if_neg e1, if_pos rfl]
                  exact this
                · exact ft64c hK hT (fSym q) ih q hcmp hrot hsym D hid hs a m b (by omega) (by omega) (by omega) hl (by omega) hok
            · cases h
          · cases h
        · cases h
      · cases h
    · cases h
end
end Go.Am
namespace Go.Am
open Go.Proofs
def stB1 (n : Nat) : Nat → Nat → Rows0 → Rows0
  | 0, _, D => D
  | c + 1, a, D => if a + 20 ≤ n then stB1 n c (a + 20) (insertion a (a + 20) D) else insertion a n D
def merB (n z : Nat) : Nat → Nat → Rows0 → Rows0
  | 0, _, D => D
  | c + 1, a, D => if a + 2 * z ≤ n then merB n z c (a + 2 * z) (symF n a (a + z) (a + 2 * z) D) else if a + z < n then symF n a (a + z) n D else D
def stB2 (n : Nat) : Nat → Nat → Rows0 → Rows0
  | 0, _, D => D
  | c + 1, z, D => if z < n then stB2 n c (2 * z) (merB n z (n + 1) 0 D) else D
def stable (D : Rows0) : Rows0 := stB2 D.length (D.length + 1) 20 (stB1 D.length (D.length + 1) 0 D)
theorem insertion_length (a b : Nat) (D : Rows0) : (insertion a b D).length = D.length := insA_length _ _ _ _
theorem insertion_ok (a b : Nat) {D : Rows0} (h : okD D) : okD (insertion a b D) := insA_ok _ _ h
theorem merB_inv (n z : Nat) {P : Rows0 → Prop} (hP : ∀ a m b D, P D → P (symF n a m b D)) : ∀ (c a : Nat) {D : Rows0}, P D → P (merB n z c a D)
  | 0, _, _, h => h
  | c + 1, a, D, h => by
    unfold merB
    split
    · exact merB_inv n z hP c _ (hP _ _ _ _ h)
    · split
      · exact hP _ _ _ _ h
      · exact h
section
variable {K : Nat} {gw : World} {s : St}
attribute [local simp] RS_cons' RS_nil RQ_nil RQ_cons' awanted xop zOf zrow aop ev T0 Slots.put Slots.set Slots.get awr WOk AV.may ofConst abinop aint isConst St.get_push St.get_put St.live AV.fit AV.cells AV.one fieldOf afieldAddr aload ofCells astore splice May eqres env_ti FinP ares aresL ares1 Fns.addP Fns.add
set_option maxRecDepth 20000 in
set_option maxHeartbeats 16000000 in
theorem ft50 (hK : 0 < K) (hT : Tens gw) {id : Nat} (D : Rows0) (hid : id < s.nx) (hs : s.get id = some (rowO D)) (hl : D.length < 268435456) (hok : okD D) :
    FT (env K gw) (fun i => i ∈ [id]) 50 [.ls id 0 D.length, .int .i64 D.length, .fn (.func 11) [] []] s (.tup []) (s.put id (rowO (stable D))) := by
  refine FT.own (fn := Tryd.f50) (fSym_ok hK hT D.length) mixed Tryd.func50 (by kernel_rfl) (by rfl) rfl rfl (by simp) (by kernel_rfl) fun μ w => ?_
  generalize hn : List.length D = n at *
  have hins : ∀ xs s, fSym n 63 xs s = gIns xs s := fun xs s => by simp [fSym, S2, S1, Fns.add]
  have hsym : ∀ xs s, fSym n 64 xs s = gSym n xs s := fun xs s => by simp [fSym, Fns.add]
  have hstb : stB2 n (n + 1) 20 (stB1 n (n + 1) 0 D) = stable D := by unfold stable; rw [hn]
  generalize stable D = R at *
  have hl2 : n < 1073741824 := by omega
  repeat' (first
    | refine WP.t ?_ | refine WP.k ?_ | refine WP.e ?_ | refine Qn ?_ | refine Qr ?_ | refine Qe ?_ | refine Bn ?_ | refine Br ?_ | refine Be ?_ | refine Bx (by decide) ?_
    | (refine RS.nl ?_; refine hk _ _ ?_; clear hk k)
    | (refine RS.st fun A B hA hB => ?_; simp [hins, onW_t, onW_f, onV_s]; first | (refine hA _ _ _ ?_ ?_; (focus (first | (simp [hins]; done) | (simp [hins]; omega))); clear hA hB A B) | (refine hB ?_; clear hA hB A B))
    | (refine RQ.nl ?_; refine hk _ _ ?_; clear hk k)
    | (refine RW.nl ?_; refine hk _ _ ?_; clear hk k)
    | (refine RW.st fun A B hA hB => ?_; simp [hins, onW_t, onW_f, onV_s]; first | (refine hA _ _ _ ?_ (by first | exact .inl (by decide) | exact .inr (.inl rfl) | exact .inr (.inr rfl)) (by first | exact .inl (by decide) | exact .inr (.inl (by decide)) | exact .inr (.inr fun s2 => by simp [hins])) ?_; (focus (first | (simp [hins]; done) | (simp [hins]; omega))); clear hA hB A B) | (refine hB ?_; clear hA hB A B))
    | (refine RQ.st fun A B hA hB => ?_; simp [hins, onW_t, onW_f, onV_s]; first | (refine hA _ _ _ ?_ (by first | exact .inl rfl | exact .inr (by decide)) ?_; (focus (first | (simp [hins]; done) | (simp [hins]; omega))); clear hA hB A B) | (refine hB ?_; clear hA hB A B))
    | refine WP.sr fun k hk => ?_ | refine WP.r fun k hk => ?_ | refine WP.sd _ rfl fun k hk => ?_ | refine WP.d _ rfl fun k hk => ?_
    | (refine WP.cc fun A B hA hB => ?_; simp [hins, onB_t, onB_f]; first | (refine hA ?_; clear hA hB A B) | (refine hB ?_; clear hA hB A B) | (refine onB_if (fun h => hA ?_) (fun h => hB ?_) <;> clear hA hB A B))
    | refine WP.q ?_ | refine WP.b ?_)
  refine WP_loop (fun q T s' => ∃ (a c : Nat) (D1 : Rows0), q = n + 20 - (a + 20) ∧ a ≤ n ∧ n - a < c ∧ s' = s.put id (rowO D1) ∧ D1.length = n ∧ okD D1 ∧ stB2 n (n + 1) 20 (stB1 n c a D1) = R ∧ T.get 0 = .ls id 0 n ∧ T.get 1 = .int .i64 n ∧ T.get 2 = .fn (.func 11) [] [] ∧ T.get 6 = .int .i64 20 ∧ T.get 7 = .int .i64 a ∧ T.get 8 = .int .i64 ((a + 20 : Nat) : Int))
    n ⟨0, n + 1, D, by omega, by omega, by omega, (St.put_self hs).symm, hn, hok, hstb, by simp, by simp, by simp, by simp, by simp, by simp⟩ ?_
  rintro q T s' ⟨a, c, D1, hq, han, hac, rfl, hD1, hok1, hst, g0, g1, g2, g6, g7, g8⟩
  obtain ⟨c, rfl⟩ : ∃ r, c = r + 1 := ⟨c - 1, by omega⟩
  have hD1' : n = D1.length := hD1.symm
  have hl3 : D1.length < 1073741824 := by omega
  have ob : (D1.all fun t => decide (t.length < LIM)) = true := okD_all.2 hok1
  by_cases ha : a + 20 ≤ n
  · have hai : (a : Int) + 20 ≤ (n : Int) := by omega
    have hst' : stB2 n (n + 1) 20 (stB1 n c (a + 20) (insertion a (a + 20) D1)) = R := by
      rw [← hst]
      conv => rhs; arg 4; unfold stB1
      rw [if_pos ha]
    have b1 : (a : Int) < 1073741824 := by omega
    have b2 : 0 ≤ (a : Int) + 20 := by omega
    have b3 : (a : Int) + 20 ≤ (D1.length : Int) := by omega
    have b4 : ((a : Int) + 20).toNat = a + 20 := by omega
    have w1 : IntKind.i64.wrap ((a : Int) + 20 + 20) = (a : Int) + 20 + 20 := wrap64 (by omega) (by omega)
    repeat' (first
      | refine WP.t ?_ | refine WP.k ?_ | refine WP.e ?_ | refine Qn ?_ | refine Qr ?_ | refine Qe ?_ | refine Bn ?_ | refine Br ?_ | refine Be ?_ | refine Bx (by decide) ?_
      | (refine RS.nl ?_; refine hk _ _ ?_; clear hk k)
      | (refine RS.st fun A B hA hB => ?_; simp [hins, gIns, g0, g1, g2, g6, g7, g8, hai, ha, b1, b2, b3, b4, w1, hid, hD1, hl2, ob, St.get_put_same, onW_t, onW_f, onV_s]; first | (refine hA _ _ _ ?_ ?_; (focus (first | (simp [hins, gIns, g0, g1, g2, g6, g7, g8, hai, ha, b1, b2, b3, b4, w1, hid, hD1, hl2, ob, St.get_put_same]; done) | (simp [hins, gIns, g0, g1, g2, g6, g7, g8, hai, ha, b1, b2, b3, b4, w1, hid, hD1, hl2, ob, St.get_put_same]; omega))); clear hA hB A B) | (refine hB ?_; clear hA hB A B))
      | (refine RQ.nl ?_; refine hk _ _ ?_; clear hk k)
      | (refine RW.nl ?_; refine hk _ _ ?_; clear hk k)
      | (refine RW.st fun A B hA hB => ?_; simp [hins, gIns, g0, g1, g2, g6, g7, g8, hai, ha, b1, b2, b3, b4, w1, hid, hD1, hl2, ob, St.get_put_same, onW_t, onW_f, onV_s]; first | (refine hA _ _ _ ?_ (by first | exact .inl (by decide) | exact .inr (.inl rfl) | exact .inr (.inr rfl)) (by first | exact .inl (by decide) | exact .inr (.inl (by decide)) | exact .inr (.inr fun s2 => by simp [hins, gIns, g0, g1, g2, g6, g7, g8, hai, ha, b1, b2, b3, b4, w1, hid, hD1, hl2, ob, St.get_put_same])) ?_; (focus (first | (simp [hins, gIns, g0, g1, g2, g6, g7, g8, hai, ha, b1, b2, b3, b4, w1, hid, hD1, hl2, ob, St.get_put_same]; done) | (simp [hins, gIns, g0, g1, g2, g6, g7, g8, hai, ha, b1, b2, b3, b4, w1, hid, hD1, hl2, ob, St.get_put_same]; omega))); clear hA hB A B) | (refine hB ?_; clear hA hB A B))
      | (refine RQ.st fun A B hA hB => ?_; simp [hins, gIns, g0, g1, g2, g6, g7, g8, hai, ha, b1, b2, b3, b4, w1, hid, hD1, hl2, ob, St.get_put_same, onW_t, onW_f, onV_s]; first | (refine hA _ _ _ ?_ (by first | exact .inl rfl | exact .inr (by decide)) ?_; (focus (first | (simp [hins, gIns, g0, g1, g2, g6, g7, g8, hai, ha, b1, b2, b3, b4, w1, hid, hD1, hl2, ob, St.get_put_same]; done) | (simp [hins, gIns, g0, g1, g2, g6, g7, g8, hai, ha, b1, b2, b3, b4, w1, hid, hD1, hl2, ob, St.get_put_same]; omega))); clear hA hB A B) | (refine hB ?_; clear hA hB A B))
      | refine WP.sr fun k hk => ?_ | refine WP.r fun k hk => ?_ | refine WP.sd _ rfl fun k hk => ?_ | refine WP.d _ rfl fun k hk => ?_
      | (refine WP.cc fun A B hA hB => ?_; simp [hins, gIns, g0, g1, g2, g6, g7, g8, hai, ha, b1, b2, b3, b4, w1, hid, hD1, hl2, ob, St.get_put_same, onB_t, onB_f]; first | (refine hA ?_; clear hA hB A B) | (refine hB ?_; clear hA hB A B) | (refine onB_if (fun h => hA ?_) (fun h => hB ?_) <;> clear hA hB A B))
      | refine WP.q ?_ | refine WP.b ?_)
    refine ⟨n - (a + 20), by omega, a + 20, c, insertion a (a + 20) D1, by omega, ha, by omega, by rw [St.put_put], by rw [insertion_length]; exact hD1, insertion_ok _ _ hok1, hst', by simp [g0], by simp [g1], by simp [g2], by simp [g6], by simp, by simp⟩
  · have hai : ¬ (a : Int) + 20 ≤ (n : Int) := by omega
    have hst' : stB2 n (n + 1) 20 (insertion a n D1) = R := by
      rw [← hst]
      conv => rhs; arg 4; unfold stB1
      rw [if_neg ha]
    have b1 : (a : Int) < 1073741824 := by omega
    have b2 : (n : Int) ≤ (D1.length : Int) := by omega
    have b3 : 0 ≤ (n : Int) := by omega
    repeat' (first
      | refine WP.t ?_ | refine WP.k ?_ | refine WP.e ?_ | refine Qn ?_ | refine Qr ?_ | refine Qe ?_ | refine Bn ?_ | refine Br ?_ | refine Be ?_ | refine Bx (by decide) ?_
      | (refine RS.nl ?_; refine hk _ _ ?_; clear hk k)
      | (refine RS.st fun A B hA hB => ?_; simp [hins, gIns, g0, g1, g2, g6, g7, g8, hai, ha, hid, hD1, hl2, ob, St.get_put_same, b1, b2, b3, onW_t, onW_f, onV_s]; first | (refine hA _ _ _ ?_ ?_; (focus (first | (simp [hins, gIns, g0, g1, g2, g6, g7, g8, hai, ha, hid, hD1, hl2, ob, St.get_put_same, b1, b2, b3]; done) | (simp [hins, gIns, g0, g1, g2, g6, g7, g8, hai, ha, hid, hD1, hl2, ob, St.get_put_same, b1, b2, b3]; omega))); clear hA hB A B) | (refine hB ?_; clear hA hB A B))
      | (refine RQ.nl ?_; refine hk _ _ ?_; clear hk k)
      | (refine RW.nl ?_; refine hk _ _ ?_; clear hk k)
      | (refine RW.st fun A B hA hB => ?_; simp [hins, gIns, g0, g1, g2, g6, g7, g8, hai, ha, hid, hD1, hl2, ob, St.get_put_same, b1, b2, b3, onW_t, onW_f, onV_s]; first | (refine hA _ _ _ ?_ (by first | exact .inl (by decide) | exact .inr (.inl rfl) | exact .inr (.inr rfl)) (by first | exact .inl (by decide) | exact .inr (.inl (by decide)) | exact .inr (.inr fun s2 => by simp [hins, gIns, g0, g1, g2, g6, g7, g8, hai, ha, hid, hD1, hl2, ob, St.get_put_same, b1, b2, b3])) ?_; (focus (first | (simp [hins, gIns, g0, g1, g2, g6, g7, g8, hai, ha, hid, hD1, hl2, ob, St.get_put_same, b1, b2, b3]; done) | (simp [hins, gIns, g0, g1, g2, g6, g7, g8, hai, ha, hid, hD1, hl2, ob, St.get_put_same, b1, b2, b3]; omega))); clear hA hB A B) | (refine hB ?_; clear hA hB A B))
      | (refine RQ.st fun A B hA hB => ?_; simp [hins, gIns, g0, g1, g2, g6, g7, g8, hai, ha, hid, hD1, hl2, ob, St.get_put_same, b1, b2, b3, onW_t, onW_f, onV_s]; first | (refine hA _ _ _ ?_ (by first | exact .inl rfl | exact .inr (by decide)) ?_; (focus (first | (simp [hins, gIns, g0, g1, g2, g6, g7, g8, hai, ha, hid, hD1, hl2, ob, St.get_put_same, b1, b2, b3]; done) | (simp [hins, gIns, g0, g1, g2, g6, g7, g8, hai, ha, hid, hD1, hl2, ob, St.get_put_same, b1, b2, b3]; omega))); clear hA hB A B) | (refine hB ?_; clear hA hB A B))
      | refine WP.sr fun k hk => ?_ | refine WP.r fun k hk => ?_ | refine WP.sd _ rfl fun k hk => ?_ | refine WP.d _ rfl fun k hk => ?_
      | (refine WP.cc fun A B hA hB => ?_; simp [hins, gIns, g0, g1, g2, g6, g7, g8, hai, ha, hid, hD1, hl2, ob, St.get_put_same, b1, b2, b3, onB_t, onB_f]; first | (refine hA ?_; clear hA hB A B) | (refine hB ?_; clear hA hB A B) | (refine onB_if (fun h => hA ?_) (fun h => hB ?_) <;> clear hA hB A B))
      | refine WP.q ?_ | refine WP.b ?_)
    generalize hD2 : insertion a n D1 = D2 at *
    have l2 : D2.length = n := by rw [← hD2, insertion_length]; exact hD1
    have ok2 : okD D2 := by rw [← hD2]; exact insertion_ok _ _ hok1
    refine WP_loop (fun q T s' => ∃ (z c : Nat) (D3 : Rows0), q = n + n - z ∧ 0 < z ∧ z ≤ n + n + 40 ∧ n - z < c ∧ s' = s.put id (rowO D3) ∧ D3.length = n ∧ okD D3 ∧ stB2 n c z D3 = R ∧ T.get 0 = .ls id 0 n ∧ T.get 1 = .int .i64 n ∧ T.get 2 = .fn (.func 11) [] [] ∧ T.get 6 = .int .i64 z)
      (n + n - 20) ⟨20, n + 1, D2, rfl, by omega, by omega, by omega, by rw [St.put_put], l2, ok2, hst', by simp [g0], by simp [g1], by simp [g2], by simp [g6]⟩ ?_
    rintro q2 T2 s2 ⟨z, c2, D3, hq2, hz0, hzn, hzc, rfl, hD3, hok3, hst3, k0, k1, k2, k6⟩
    obtain ⟨c2, rfl⟩ : ∃ r, c2 = r + 1 := ⟨c2 - 1, by omega⟩
    by_cases hz : z < n
    · have hzi : (z : Int) < (n : Int) := by omega
      have hst4 : stB2 n c2 (2 * z) (merB n z (n + 1) 0 D3) = R := by
        rw [← hst3]
        conv => rhs; unfold stB2
        rw [if_pos hz]
      have w2 : IntKind.i64.wrap (2 * (z : Int)) = 2 * (z : Int) := wrap64 (by omega) (by omega)
      have w2' : IntKind.i64.wrap ((z : Int) * 2) = (z : Int) * 2 := wrap64 (by omega) (by omega)
      repeat' (first
        | refine WP.t ?_ | refine WP.k ?_ | refine WP.e ?_ | refine Qn ?_ | refine Qr ?_ | refine Qe ?_ | refine Bn ?_ | refine Br ?_ | refine Be ?_ | refine Bx (by decide) ?_
        | (refine RS.nl ?_; refine hk _ _ ?_; clear hk k)
        | (refine RS.st fun A B hA hB => ?_; simp [k0, k1, k2, k6, hzi, hz, w2, w2', onW_t, onW_f, onV_s]; first | (refine hA _ _ _ ?_ ?_; (focus (first | (simp [k0, k1, k2, k6, hzi, hz, w2, w2']; done) | (simp [k0, k1, k2, k6, hzi, hz, w2, w2']; omega))); clear hA hB A B) | (refine hB ?_; clear hA hB A B))
        | (refine RQ.nl ?_; refine hk _ _ ?_; clear hk k)
        | (refine RW.nl ?_; refine hk _ _ ?_; clear hk k)
        | (refine RW.st fun A B hA hB => ?_; simp [k0, k1, k2, k6, hzi, hz, w2, w2', onW_t, onW_f, onV_s]; first | (refine hA _ _ _ ?_ (by first | exact .inl (by decide) | exact .inr (.inl rfl) | exact .inr (.inr rfl)) (by first | exact .inl (by decide) | exact .inr (.inl (by decide)) | exact .inr (.inr fun s2 => by simp [k0, k1, k2, k6, hzi, hz, w2, w2'])) ?_; (focus (first | (simp [k0, k1, k2, k6, hzi, hz, w2, w2']; done) | (simp [k0, k1, k2, k6, hzi, hz, w2, w2']; omega))); clear hA hB A B) | (refine hB ?_; clear hA hB A B))
        | (refine RQ.st fun A B hA hB => ?_; simp [k0, k1, k2, k6, hzi, hz, w2, w2', onW_t, onW_f, onV_s]; first | (refine hA _ _ _ ?_ (by first | exact .inl rfl | exact .inr (by decide)) ?_; (focus (first | (simp [k0, k1, k2, k6, hzi, hz, w2, w2']; done) | (simp [k0, k1, k2, k6, hzi, hz, w2, w2']; omega))); clear hA hB A B) | (refine hB ?_; clear hA hB A B))
        | refine WP.sr fun k hk => ?_ | refine WP.r fun k hk => ?_ | refine WP.sd _ rfl fun k hk => ?_ | refine WP.d _ rfl fun k hk => ?_
        | (refine WP.cc fun A B hA hB => ?_; simp [k0, k1, k2, k6, hzi, hz, w2, w2', onB_t, onB_f]; first | (refine hA ?_; clear hA hB A B) | (refine hB ?_; clear hA hB A B) | (refine onB_if (fun h => hA ?_) (fun h => hB ?_) <;> clear hA hB A B))
        | refine WP.q ?_ | refine WP.b ?_)
      refine WP_loop (fun q T s' => ∃ (a c : Nat) (D4 : Rows0), q = n - a ∧ a ≤ n ∧ n - a < c ∧ s' = s.put id (rowO D4) ∧ D4.length = n ∧ okD D4 ∧ stB2 n c2 (2 * z) (merB n z c a D4) = R ∧ T.get 0 = .ls id 0 n ∧ T.get 1 = .int .i64 n ∧ T.get 2 = .fn (.func 11) [] [] ∧ T.get 6 = .int .i64 z ∧ T.get 7 = .int .i64 a ∧ T.get 8 = .int .i64 ((a + 2 * z : Nat) : Int))
        n ⟨0, n + 1, D3, by omega, by omega, by omega, rfl, hD3, hok3, hst4, by simp [k0], by simp [k1], by simp [k2], by simp [k6], by simp, by simp⟩ ?_
      rintro q3 T3 s3 ⟨e, c3, D4, hq3, hen, hec, rfl, hD4, hok4, hst5, m0, m1, m2, m6, m7, m8⟩
      obtain ⟨c3, rfl⟩ : ∃ r, c3 = r + 1 := ⟨c3 - 1, by omega⟩
      have ob4 : okB D4 = true := okB_iff.2 hok4
      have hl4 : D4.length < 1073741824 := by omega
      have w3 : IntKind.i64.wrap ((e : Int) + (z : Int)) = (e : Int) + (z : Int) := wrap64 (by omega) (by omega)
      have t1 : ((e : Int) + (z : Int)).toNat = e + z := by omega
      by_cases he : e + 2 * z ≤ n
      · have hei : (e : Int) + 2 * (z : Int) ≤ (n : Int) := by omega
        have hst6 : stB2 n c2 (2 * z) (merB n z c3 (e + 2 * z) (symF n e (e + z) (e + 2 * z) D4)) = R := by
          rw [← hst5]
          conv => rhs; arg 4; unfold merB
          rw [if_pos he]
        have w4 : IntKind.i64.wrap ((e : Int) + 2 * (z : Int) + 2 * (z : Int)) = (e : Int) + 2 * (z : Int) + 2 * (z : Int) := wrap64 (by omega) (by omega)
        have b4 : (e : Int) < (e : Int) + (z : Int) := by omega
        have b5 : (e : Int) + (z : Int) < (e : Int) + 2 * (z : Int) := by omega
        have b6 : (e : Int) + 2 * (z : Int) ≤ (D4.length : Int) := by omega
        have b7 : (e : Int) + 2 * (z : Int) - (e : Int) ≤ (n : Int) := by omega
        have b8 : 2 * (z : Int) ≤ (n : Int) := by omega
        have b9 : 0 < z := hz0
        have b10 : (z : Int) < 2 * (z : Int) := by omega
        have b11 : 0 < (z : Int) := by omega
        have t2 : ((e : Int) + 2 * (z : Int)).toNat = e + 2 * z := by omega
        repeat' (first
          | refine WP.t ?_ | refine WP.k ?_ | refine WP.e ?_ | refine Qn ?_ | refine Qr ?_ | refine Qe ?_ | refine Bn ?_ | refine Br ?_ | refine Be ?_ | refine Bx (by decide) ?_
          | (refine RS.nl ?_; refine hk _ _ ?_; clear hk k)
          | (refine RS.st fun A B hA hB => ?_; simp [hsym, gSym, m0, m1, m2, m6, m7, m8, hei, he, w2, w3, w4, t1, t2, b4, b5, b6, b7, b8, b9, b10, b11, hid, hD4, hl2, ob4, St.get_put_same, onW_t, onW_f, onV_s]; first | (refine hA _ _ _ ?_ ?_; (focus (first | (simp [hsym, gSym, m0, m1, m2, m6, m7, m8, hei, he, w2, w3, w4, t1, t2, b4, b5, b6, b7, b8, b9, b10, b11, hid, hD4, hl2, ob4, St.get_put_same]; done) | (simp [hsym, gSym, m0, m1, m2, m6, m7, m8, hei, he, w2, w3, w4, t1, t2, b4, b5, b6, b7, b8, b9, b10, b11, hid, hD4, hl2, ob4, St.get_put_same]; omega))); clear hA hB A B) | (refine hB ?_; clear hA hB A B))
          | (refine RQ.nl ?_; refine hk _ _ ?_; clear hk k)
          | (refine RW.nl ?_; refine hk _ _ ?_; clear hk k)
          | (refine RW.st fun A B hA hB => ?_; simp [hsym, gSym, m0, m1, m2, m6, m7, m8, hei, he, w2, w3, w4, t1, t2, b4, b5, b6, b7, b8, b9, b10, b11, hid, hD4, hl2, ob4, St.get_put_same, onW_t, onW_f, onV_s]; first | (refine hA _ _ _ ?_ (by first | exact .inl (by decide) | exact .inr (.inl rfl) | exact .inr (.inr rfl)) (by first | exact .inl (by decide) | exact .inr (.inl (by decide)) | exact .inr (.inr fun s2 => by simp [hsym, gSym, m0, m1, m2, m6, m7, m8, hei, he, w2, w3, w4, t1, t2, b4, b5, b6, b7, b8, b9, b10, b11, hid, hD4, hl2, ob4, St.get_put_same])) ?_; (focus (first | (simp [hsym, gSym, m0, m1, m2, m6, m7, m8, hei, he, w2, w3, w4, t1, t2, b4, b5, b6, b7, b8, b9, b10, b11, hid, hD4, hl2, ob4, St.get_put_same]; done) | (simp [hsym, gSym, m0, m1, m2, m6, m7, m8, hei, he, w2, w3, w4, t1, t2, b4, b5, b6, b7, b8, b9, b10, b11, hid, hD4, hl2, ob4, St.get_put_same]; omega))); clear hA hB A B) | (refine hB ?_; clear hA hB A B))
          | (refine RQ.st fun A B hA hB => ?_; simp [hsym, gSym, m0, m1, m2, m6, m7, m8, hei, he, w2, w3, w4, t1, t2, b4, b5, b6, b7, b8, b9, b10, b11, hid, hD4, hl2, ob4, St.get_put_same, onW_t, onW_f, onV_s]; first | (refine hA _ _ _ ?_ (by first | exact .inl rfl | exact .inr (by decide)) ?_; (focus (first | (simp [hsym, gSym, m0, m1, m2, m6, m7, m8, hei, he, w2, w3, w4, t1, t2, b4, b5, b6, b7, b8, b9, b10, b11, hid, hD4, hl2, ob4, St.get_put_same]; done) | (simp [hsym, gSym, m0, m1, m2, m6, m7, m8, hei, he, w2, w3, w4, t1, t2, b4, b5, b6, b7, b8, b9, b10, b11, hid, hD4, hl2, ob4, St.get_put_same]; omega))); clear hA hB A B) | (refine hB ?_; clear hA hB A B))
          | refine WP.sr fun k hk => ?_ | refine WP.r fun k hk => ?_ | refine WP.sd _ rfl fun k hk => ?_ | refine WP.d _ rfl fun k hk => ?_
          | (refine WP.cc fun A B hA hB => ?_; simp [hsym, gSym, m0, m1, m2, m6, m7, m8, hei, he, w2, w3, w4, t1, t2, b4, b5, b6, b7, b8, b9, b10, b11, hid, hD4, hl2, ob4, St.get_put_same, onB_t, onB_f]; first | (refine hA ?_; clear hA hB A B) | (refine hB ?_; clear hA hB A B) | (refine onB_if (fun h => hA ?_) (fun h => hB ?_) <;> clear hA hB A B))
          | refine WP.q ?_ | refine WP.b ?_)
        refine ⟨n - (e + 2 * z), by omega, e + 2 * z, c3, symF n e (e + z) (e + 2 * z) D4, rfl, he, by omega, by rw [St.put_put], by rw [symF_length]; exact hD4, symF_ok _ _ _ _ hok4, hst6, by simp [m0], by simp [m1], by simp [m2], by simp [m6], by simp, by simp⟩
      · have hei : ¬ (e : Int) + 2 * (z : Int) ≤ (n : Int) := by omega
        by_cases hez : e + z < n
        · have hezi : (e : Int) + (z : Int) < (n : Int) := by omega
          have hst6 : stB2 n c2 (2 * z) (symF n e (e + z) n D4) = R := by
            rw [← hst5]
            conv => rhs; arg 4; unfold merB
            rw [if_neg he, if_pos hez]
          have b4 : (e : Int) < (e : Int) + (z : Int) := by omega
          have b6 : (n : Int) ≤ (D4.length : Int) := by omega
          have b7 : (n : Int) - (e : Int) ≤ (n : Int) := by omega
          have b9 : 0 < z := hz0
          have b11 : 0 < (z : Int) := by omega
          repeat' (first
            | refine WP.t ?_ | refine WP.k ?_ | refine WP.e ?_ | refine Qn ?_ | refine Qr ?_ | refine Qe ?_ | refine Bn ?_ | refine Br ?_ | refine Be ?_ | refine Bx (by decide) ?_
            | (refine RS.nl ?_; refine hk _ _ ?_; clear hk k)
            | (refine RS.st fun A B hA hB => ?_; simp [hsym, gSym, m0, m1, m2, m6, m7, m8, hei, he, hezi, hez, w2, w2', w3, t1, b4, b6, b7, b9, b11, hid, hD4, hl2, ob4, St.get_put_same, onW_t, onW_f, onV_s]; first | (refine hA _ _ _ ?_ ?_; (focus (first | (simp [hsym, gSym, m0, m1, m2, m6, m7, m8, hei, he, hezi, hez, w2, w2', w3, t1, b4, b6, b7, b9, b11, hid, hD4, hl2, ob4, St.get_put_same]; done) | (simp [hsym, gSym, m0, m1, m2, m6, m7, m8, hei, he, hezi, hez, w2, w2', w3, t1, b4, b6, b7, b9, b11, hid, hD4, hl2, ob4, St.get_put_same]; omega))); clear hA hB A B) | (refine hB ?_; clear hA hB A B))
            | (refine RQ.nl ?_; refine hk _ _ ?_; clear hk k)
            | (refine RW.nl ?_; refine hk _ _ ?_; clear hk k)
            | (refine RW.st fun A B hA hB => ?_; simp [hsym, gSym, m0, m1, m2, m6, m7, m8, hei, he, hezi, hez, w2, w2', w3, t1, b4, b6, b7, b9, b11, hid, hD4, hl2, ob4, St.get_put_same, onW_t, onW_f, onV_s]; first | (refine hA _ _ _ ?_ (by first | exact .inl (by decide) | exact .inr (.inl rfl) | exact .inr (.inr rfl)) (by first | exact .inl (by decide) | exact .inr (.inl (by decide)) | exact .inr (.inr fun s2 => by simp [hsym, gSym, m0, m1, m2, m6, m7, m8, hei, he, hezi, hez, w2, w2', w3, t1, b4, b6, b7, b9, b11, hid, hD4, hl2, ob4, St.get_put_same])) ?_; (focus (first | (simp [hsym, gSym, m0, m1, m2, m6, m7, m8, hei, he, hezi, hez, w2, w2', w3, t1, b4, b6, b7, b9, b11, hid, hD4, hl2, ob4, St.get_put_same]; done) | (simp [hsym, gSym, m0, m1, m2, m6, m7, m8, hei, he, hezi, hez, w2, w2', w3, t1, b4, b6, b7, b9, b11, hid, hD4, hl2, ob4, St.get_put_same]; omega))); clear hA hB A B) | (refine hB ?_; clear hA hB A B))
            | (refine RQ.st fun A B hA hB => ?_; simp [hsym, gSym, m0, m1, m2, m6, m7, m8, hei, he, hezi, hez, w2, w2', w3, t1, b4, b6, b7, b9, b11, hid, hD4, hl2, ob4, St.get_put_same, onW_t, onW_f, onV_s]; first | (refine hA _ _ _ ?_ (by first | exact .inl rfl | exact .inr (by decide)) ?_; (focus (first | (simp [hsym, gSym, m0, m1, m2, m6, m7, m8, hei, he, hezi, hez, w2, w2', w3, t1, b4, b6, b7, b9, b11, hid, hD4, hl2, ob4, St.get_put_same]; done) | (simp [hsym, gSym, m0, m1, m2, m6, m7, m8, hei, he, hezi, hez, w2, w2', w3, t1, b4, b6, b7, b9, b11, hid, hD4, hl2, ob4, St.get_put_same]; omega))); clear hA hB A B) | (refine hB ?_; clear hA hB A B))
            | refine WP.sr fun k hk => ?_ | refine WP.r fun k hk => ?_ | refine WP.sd _ rfl fun k hk => ?_ | refine WP.d _ rfl fun k hk => ?_
            | (refine WP.cc fun A B hA hB => ?_; simp [hsym, gSym, m0, m1, m2, m6, m7, m8, hei, he, hezi, hez, w2, w2', w3, t1, b4, b6, b7, b9, b11, hid, hD4, hl2, ob4, St.get_put_same, onB_t, onB_f]; first | (refine hA ?_; clear hA hB A B) | (refine hB ?_; clear hA hB A B) | (refine onB_if (fun h => hA ?_) (fun h => hB ?_) <;> clear hA hB A B))
            | refine WP.q ?_ | refine WP.b ?_)
          refine ⟨n + n - 2 * z, by omega, 2 * z, c2, symF n e (e + z) n D4, rfl, by omega, by omega, by omega, by rw [St.put_put], by rw [symF_length]; exact hD4, symF_ok _ _ _ _ hok4, hst6, by simp [m0], by simp [m1], by simp [m2], by simp; omega⟩
        · have hezi : ¬ (e : Int) + (z : Int) < (n : Int) := by omega
          have hst6 : stB2 n c2 (2 * z) D4 = R := by
            rw [← hst5]
            conv => rhs; arg 4; unfold merB
            rw [if_neg he, if_neg hez]
          repeat' (first
            | refine WP.t ?_ | refine WP.k ?_ | refine WP.e ?_ | refine Qn ?_ | refine Qr ?_ | refine Qe ?_ | refine Bn ?_ | refine Br ?_ | refine Be ?_ | refine Bx (by decide) ?_
            | (refine RS.nl ?_; refine hk _ _ ?_; clear hk k)
            | (refine RS.st fun A B hA hB => ?_; simp [hsym, gSym, m0, m1, m2, m6, m7, m8, hei, he, hezi, hez, w2, w2', w3, hid, hD4, hl2, ob4, St.get_put_same, onW_t, onW_f, onV_s]; first | (refine hA _ _ _ ?_ ?_; (focus (first | (simp [hsym, gSym, m0, m1, m2, m6, m7, m8, hei, he, hezi, hez, w2, w2', w3, hid, hD4, hl2, ob4, St.get_put_same]; done) | (simp [hsym, gSym, m0, m1, m2, m6, m7, m8, hei, he, hezi, hez, w2, w2', w3, hid, hD4, hl2, ob4, St.get_put_same]; omega))); clear hA hB A B) | (refine hB ?_; clear hA hB A B))
            | (refine RQ.nl ?_; refine hk _ _ ?_; clear hk k)
            | (refine RW.nl ?_; refine hk _ _ ?_; clear hk k)
            | (refine RW.st fun A B hA hB => ?_; simp [hsym, gSym, m0, m1, m2, m6, m7, m8, hei, he, hezi, hez, w2, w2', w3, hid, hD4, hl2, ob4, St.get_put_same, onW_t, onW_f, onV_s]; first | (refine hA _ _ _ ?_ (by first | exact .inl (by decide) | exact .inr (.inl rfl) | exact .inr (.inr rfl)) (by first | exact .inl (by decide) | exact .inr (.inl (by decide)) | exact .inr (.inr fun s2 => by simp [hsym, gSym, m0, m1, m2, m6, m7, m8, hei, he, hezi, hez, w2, w2', w3, hid, hD4, hl2, ob4, St.get_put_same])) ?_; (focus (first | (simp [hsym, gSym, m0, m1, m2, m6, m7, m8, hei, he, hezi, hez, w2, w2', w3, hid, hD4, hl2, ob4, St.get_put_same]; done) | (simp [hsym, gSym, m0, m1, m2, m6, m7, m8, hei, he, hezi, hez, w2, w2', w3, hid, hD4, hl2, ob4, St.get_put_same]; omega))); clear hA hB A B) | (refine hB ?_; clear hA hB A B))
            | (refine RQ.st fun A B hA hB => ?_; simp [hsym, gSym, m0, m1, m2, m6, m7, m8, hei, he, hezi, hez, w2, w2', w3, hid, hD4, hl2, ob4, St.get_put_same, onW_t, onW_f, onV_s]; first | (refine hA _ _ _ ?_ (by first | exact .inl rfl | exact .inr (by decide)) ?_; (focus (first | (simp [hsym, gSym, m0, m1, m2, m6, m7, m8, hei, he, hezi, hez, w2, w2', w3, hid, hD4, hl2, ob4, St.get_put_same]; done) | (simp [hsym, gSym, m0, m1, m2, m6, m7, m8, hei, he, hezi, hez, w2, w2', w3, hid, hD4, hl2, ob4, St.get_put_same]; omega))); clear hA hB A B) | (refine hB ?_; clear hA hB A B))
            | refine WP.sr fun k hk => ?_ | refine WP.r fun k hk => ?_ | refine WP.sd _ rfl fun k hk => ?_ | refine WP.d _ rfl fun k hk => ?_
            | (refine WP.cc fun A B hA hB => ?_; simp [hsym, gSym, m0, m1, m2, m6, m7, m8, hei, he, hezi, hez, w2, w2', w3, hid, hD4, hl2, ob4, St.get_put_same, onB_t, onB_f]; first | (refine hA ?_; clear hA hB A B) | (refine hB ?_; clear hA hB A B) | (refine onB_if (fun h => hA ?_) (fun h => hB ?_) <;> clear hA hB A B))
            | refine WP.q ?_ | refine WP.b ?_)
          refine ⟨n + n - 2 * z, by omega, 2 * z, c2, D4, rfl, by omega, by omega, by omega, rfl, hD4, hok4, hst6, by simp [m0], by simp [m1], by simp [m2], by simp; omega⟩
    · have hzi : ¬ (z : Int) < (n : Int) := by omega
      have hst4 : D3 = R := by
        rw [← hst3]
        unfold stB2
        rw [if_neg hz]
      repeat' (first
        | refine WP.t ?_ | refine WP.k ?_ | refine WP.e ?_ | refine Qn ?_ | refine Qr ?_ | refine Qe ?_ | refine Bn ?_ | refine Br ?_ | refine Be ?_ | refine Bx (by decide) ?_
        | (refine RS.nl ?_; refine hk _ _ ?_; clear hk k)
        | (refine RS.st fun A B hA hB => ?_; simp [k0, k1, k2, k6, hzi, hz, onW_t, onW_f, onV_s]; first | (refine hA _ _ _ ?_ ?_; (focus (first | (simp [k0, k1, k2, k6, hzi, hz]; done) | (simp [k0, k1, k2, k6, hzi, hz]; omega))); clear hA hB A B) | (refine hB ?_; clear hA hB A B))
        | (refine RQ.nl ?_; refine hk _ _ ?_; clear hk k)
        | (refine RW.nl ?_; refine hk _ _ ?_; clear hk k)
        | (refine RW.st fun A B hA hB => ?_; simp [k0, k1, k2, k6, hzi, hz, onW_t, onW_f, onV_s]; first | (refine hA _ _ _ ?_ (by first | exact .inl (by decide) | exact .inr (.inl rfl) | exact .inr (.inr rfl)) (by first | exact .inl (by decide) | exact .inr (.inl (by decide)) | exact .inr (.inr fun s2 => by simp [k0, k1, k2, k6, hzi, hz])) ?_; (focus (first | (simp [k0, k1, k2, k6, hzi, hz]; done) | (simp [k0, k1, k2, k6, hzi, hz]; omega))); clear hA hB A B) | (refine hB ?_; clear hA hB A B))
        | (refine RQ.st fun A B hA hB => ?_; simp [k0, k1, k2, k6, hzi, hz, onW_t, onW_f, onV_s]; first | (refine hA _ _ _ ?_ (by first | exact .inl rfl | exact .inr (by decide)) ?_; (focus (first | (simp [k0, k1, k2, k6, hzi, hz]; done) | (simp [k0, k1, k2, k6, hzi, hz]; omega))); clear hA hB A B) | (refine hB ?_; clear hA hB A B))
        | refine WP.sr fun k hk => ?_ | refine WP.r fun k hk => ?_ | refine WP.sd _ rfl fun k hk => ?_ | refine WP.d _ rfl fun k hk => ?_
        | (refine WP.cc fun A B hA hB => ?_; simp [k0, k1, k2, k6, hzi, hz, onB_t, onB_f]; first | (refine hA ?_; clear hA hB A B) | (refine hB ?_; clear hA hB A B) | (refine onB_if (fun h => hA ?_) (fun h => hB ?_) <;> clear hA hB A B))
        | refine WP.q ?_ | refine WP.b ?_)
      rw [← hst4]
      exact finRow (.inl rfl) hid rfl
end
end Go.Am
namespace Go.Am
open Go.Proofs
/-- The state behind slices.Clone. -/
def stC (s : St) (D : Rows0) : St := ((s.push (.row 1 (true, 22) [])).drop s.nx).push (rowO D)
theorem stC_nx (s : St) (D : Rows0) : (stC s D).nx = s.nx + 2 := rfl
theorem stC_lo {s : St} {D : Rows0} {id : Nat} (h : id < s.nx) : (stC s D).get id = s.get id := by
  unfold stC
  rw [St.get_push, if_neg (by simp; omega), St.get_drop, if_neg (by omega), St.get_push, if_neg (by omega)]
theorem stC_get (s : St) (D : Rows0) : (stC s D).get (s.nx + 1) = some (rowO D) := by
  unfold stC
  rw [St.get_push, if_pos (by simp)]
theorem stC_mid (s : St) (D : Rows0) : (stC s D).get s.nx = none := by
  unfold stC
  rw [St.get_push, if_neg (by simp), St.get_drop, if_pos rfl]
section
variable {K : Nat} {gw : World} {s : St}
attribute [local simp] RS_cons' RS_nil RQ_nil RQ_cons' awanted xop zOf zrow aop ev T0 Slots.put Slots.set Slots.get awr WOk AV.may ofConst abinop aint isConst St.get_push St.get_put St.live AV.fit AV.cells AV.one fieldOf afieldAddr aload ofCells astore splice May eqres env_ti FinP ares aresL ares1 Fns.addP Fns.add
theorem finC {rs : Array ResultVar} {e : Exit} {T : Slots} {D : Rows0} (he : e = .normal ∨ e = .ret) (hr : ares (env K gw) T (stC s D) rs = some (.ls (s.nx + 1) 0 D.length)) :
    FinW (env K gw) rs NoW s (.ls (s.nx + 1) 0 D.length) (stC s D) e T (stC s D) := by
  refine ⟨he, hr, by rw [stC_nx]; simp, by rw [stC_nx]; omega, Nat.le_refl _, fun _ => ⟨fun _ _ => rfl, fun id hid h o ho => ?_⟩⟩
  rcases h with h | h
  · exact h.elim
  · rw [stC_nx] at hid
    by_cases e1 : id = s.nx
    · subst e1
      rw [stC_mid] at ho
      cases ho
    · obtain rfl : id = s.nx + 1 := by omega
      rw [stC_get] at ho
      cases ho
      exact belowO _ _
set_option maxRecDepth 20000 in
set_option maxHeartbeats 16000000 in
theorem ft34 (hK : 0 < K) (hT : Tens gw) (D : Rows0) (hl : D.length < 268435456) :
    FT (env K gw) NoW 34 [.sl (encD D)] s (.ls (s.nx + 1) 0 D.length) (stC s D) := by
  refine FT.ownC (fn := Tryd.f34) Tryd.func34 (by kernel_rfl) (by rfl) rfl rfl (by simp) fun μ w => ?_
  have h36 := ti36
  refine CT.seq (CT.region (OT.step (i := 0) (rest := []) rfl rfl rfl (Step1.val (r := .nsl) (s' := s) rfl trivial) (OT.nil ?_)))
  refine CT.seq (CT.seq (CT.region (OT.step (i := 0) (rest := [1]) rfl rfl rfl (Step1.val (r := .sl (encD D)) (s' := s) rfl trivial) (OT.nilq (y := ⟨1, 24, false, [.slice none 0 0], .slice 22, false, false⟩) (e := 22) (xs := encD D) rfl rfl rfl rfl (by simp only [env]; exact h36) rfl rfl fun b hb => OT.nil ?_))))
  cases b with
  | true =>
    have hD : D = [] := by
      cases D with
      | nil => rfl
      | cons x D => exact absurd (hb (by simp [encD])) (by simp)
    subst hD
    refine CT.cond (t := true) rfl ?_
    refine CT.seq (CT.region (OT.step (i := 0) (rest := []) rfl rfl rfl (Step1.val (r := .nsl) (s' := s) rfl trivial) (OT.nil ?_)))
    refine CT.nlrow (s2 := stC s []) 2 (s.nx + 1) rfl (by rw [stC_nx]; omega) (fun id hid => stC_lo hid) (by rw [stC_nx]; omega) ?_
    exact CT.ret (finC (.inr rfl) rfl)
  | false =>
    refine CT.cond (t := false) rfl (CT.skip ?_)
    refine WP_sound (F0_ok) mixed (Nat.le_refl _) _ _ _ s (by rfl) ?_
    have hone : ((encD D).all fun y => y.length == 1 && y.all AV.one) = true := by
      simp [encD, Rw, AV.one]
    have hby : D.length * 24 ≤ 140737488355328 := by omega
    repeat' (first
      | refine WP.t ?_ | refine WP.k ?_ | refine WP.e ?_ | refine Qn ?_ | refine Qr ?_ | refine Qe ?_ | refine Bn ?_ | refine Br ?_ | refine Be ?_ | refine Bx (by decide) ?_
      | (refine RS.nl ?_; refine hk _ _ ?_; clear hk k)
      | (refine RS.st fun A B hA hB => ?_; simp [elemOfT, elemId, ti36, ti22, abuildSlice, afill, chunks, abuiltin, ard, aappend, isSS, AV.isStr, hone, hby, onW_t, onW_f, onV_s]; first | (refine hA _ _ _ ?_ ?_; (focus (first | (simp [elemOfT, elemId, ti36, ti22, abuildSlice, afill, chunks, abuiltin, ard, aappend, isSS, AV.isStr, hone, hby]; done) | (simp [elemOfT, elemId, ti36, ti22, abuildSlice, afill, chunks, abuiltin, ard, aappend, isSS, AV.isStr, hone, hby]; omega))); clear hA hB A B) | (refine hB ?_; clear hA hB A B))
      | (refine RQ.nl ?_; refine hk _ _ ?_; clear hk k)
      | (refine RW.nl ?_; refine hk _ _ ?_; clear hk k)
      | (refine RW.st fun A B hA hB => ?_; simp [elemOfT, elemId, ti36, ti22, abuildSlice, afill, chunks, abuiltin, ard, aappend, isSS, AV.isStr, hone, hby, onW_t, onW_f, onV_s]; first | (refine hA _ _ _ ?_ (by first | exact .inl (by decide) | exact .inr (.inl rfl) | exact .inr (.inr rfl)) (by first | exact .inl (by decide) | exact .inr (.inl (by decide)) | exact .inr (.inr fun s2 => by simp [elemOfT, elemId, ti36, ti22, abuildSlice, afill, chunks, abuiltin, ard, aappend, isSS, AV.isStr, hone, hby])) ?_; (focus (first | (simp [elemOfT, elemId, ti36, ti22, abuildSlice, afill, chunks, abuiltin, ard, aappend, isSS, AV.isStr, hone, hby]; done) | (simp [elemOfT, elemId, ti36, ti22, abuildSlice, afill, chunks, abuiltin, ard, aappend, isSS, AV.isStr, hone, hby]; omega))); clear hA hB A B) | (refine hB ?_; clear hA hB A B))
      | (refine RQ.st fun A B hA hB => ?_; simp [elemOfT, elemId, ti36, ti22, abuildSlice, afill, chunks, abuiltin, ard, aappend, isSS, AV.isStr, hone, hby, onW_t, onW_f, onV_s]; first | (refine hA _ _ _ ?_ (by first | exact .inl rfl | exact .inr (by decide)) ?_; (focus (first | (simp [elemOfT, elemId, ti36, ti22, abuildSlice, afill, chunks, abuiltin, ard, aappend, isSS, AV.isStr, hone, hby]; done) | (simp [elemOfT, elemId, ti36, ti22, abuildSlice, afill, chunks, abuiltin, ard, aappend, isSS, AV.isStr, hone, hby]; omega))); clear hA hB A B) | (refine hB ?_; clear hA hB A B))
      | refine WP.sr fun k hk => ?_ | refine WP.r fun k hk => ?_ | refine WP.sd _ rfl fun k hk => ?_ | refine WP.d _ rfl fun k hk => ?_
      | (refine WP.cc fun A B hA hB => ?_; simp [elemOfT, elemId, ti36, ti22, abuildSlice, afill, chunks, abuiltin, ard, aappend, isSS, AV.isStr, hone, hby, onB_t, onB_f]; first | (refine hA ?_; clear hA hB A B) | (refine hB ?_; clear hA hB A B) | (refine onB_if (fun h => hA ?_) (fun h => hB ?_) <;> clear hA hB A B))
      | refine WP.q ?_ | refine WP.b ?_)
    exact finC (.inr rfl) rfl
end
end Go.Am
namespace Go.Am
open Go.Proofs
section
variable {K : Nat} {gw : World} {s : St}
attribute [local simp] RS_cons' RS_nil RQ_nil RQ_cons' awanted xop zOf zrow aop ev T0 Slots.put Slots.set Slots.get awr WOk AV.may ofConst abinop aint isConst St.get_push St.get_put St.live AV.fit AV.cells AV.one fieldOf afieldAddr aload ofCells astore splice May eqres env_ti FinP ares aresL ares1 Fns.addP Fns.add
/-- What sorts a row of rows in place: 50, 35. -/
def gStb (xs : List AV) (s : St) : Option (AV × St × List Nat) :=
  match xs with
  | [.ls id 0 n, .int .i64 m, .fn (.func 11) [] []] => if id < s.nx then (match s.get id with
    | some (.row 1 (true, 22) es) => match decD es with
      | some D => if (n = D.length ∧ m = (D.length : Int) ∧ D.length < 268435456) ∧ okB D = true then some (.tup [], s.put id (rowO (stable D)), [id]) else none
      | none => none
    | _ => none) else none
  | _ => none
def gStb2 (xs : List AV) (s : St) : Option (AV × St × List Nat) :=
  match xs with
  | [.ls id 0 n, .fn (.func 11) [] []] => if id < s.nx then (match s.get id with
    | some (.row 1 (true, 22) es) => match decD es with
      | some D => if (n = D.length ∧ D.length < 268435456) ∧ okB D = true then some (.tup [], s.put id (rowO (stable D)), [id]) else none
      | none => none
    | _ => none) else none
  | _ => none
noncomputable def U1 : Fns := F13.add 50 gStb
theorem U1_ok (hK : 0 < K) (hT : Tens gw) : FOk (env K gw) U1 := by
  refine (F13_ok hK hT).add fun xs s r s' l h => ?_
  unfold gStb at h
  split at h
  · rename_i id n m
    split at h
    · rename_i hid
      split at h
      · rename_i hs
        split at h
        · rename_i D hD
          split at h
          · rename_i hc
            cases h
            obtain ⟨⟨rfl, rfl, hl⟩, h6⟩ := hc
            rw [decD_eq hD] at hs
            exact ft50 hK hT D hid hs hl (okB_iff.1 h6)
          · cases h
        · cases h
      · cases h
    · cases h
  · cases h
set_option maxRecDepth 20000 in
set_option maxHeartbeats 16000000 in
theorem ft35 (hK : 0 < K) (hT : Tens gw) {id : Nat} (D : Rows0) (hid : id < s.nx) (hs : s.get id = some (rowO D)) (hl : D.length < 268435456) (hok : okD D) :
    FT (env K gw) (fun i => i ∈ [id]) 35 [.ls id 0 D.length, .fn (.func 11) [] []] s (.tup []) (s.put id (rowO (stable D))) := by
  refine FT.own (fn := Tryd.f35) (U1_ok hK hT) mixed Tryd.func35 (by kernel_rfl) (by rfl) rfl rfl (by simp) (by kernel_rfl) fun μ w => ?_
  have hstb : ∀ xs s, U1 50 xs s = gStb xs s := fun xs s => by simp [U1, Fns.add]
  have ob : okB D = true := okB_iff.2 hok
  repeat' (first
    | refine WP.t ?_ | refine WP.k ?_ | refine WP.e ?_ | refine Qn ?_ | refine Qr ?_ | refine Qe ?_ | refine Bn ?_ | refine Br ?_ | refine Be ?_ | refine Bx (by decide) ?_
    | (refine RS.nl ?_; refine hk _ _ ?_; clear hk k)
    | (refine RS.st fun A B hA hB => ?_; simp [hstb, gStb, abuiltin, alenOk, alen, ti36, hid, hs, hl, ob, onW_t, onW_f, onV_s]; first | (refine hA _ _ _ ?_ ?_; (focus (first | (simp [hstb, gStb, abuiltin, alenOk, alen, ti36, hid, hs, hl, ob]; done) | (simp [hstb, gStb, abuiltin, alenOk, alen, ti36, hid, hs, hl, ob]; omega))); clear hA hB A B) | (refine hB ?_; clear hA hB A B))
    | (refine RQ.nl ?_; refine hk _ _ ?_; clear hk k)
    | (refine RW.nl ?_; refine hk _ _ ?_; clear hk k)
    | (refine RW.st fun A B hA hB => ?_; simp [hstb, gStb, abuiltin, alenOk, alen, ti36, hid, hs, hl, ob, onW_t, onW_f, onV_s]; first | (refine hA _ _ _ ?_ (by first | exact .inl (by decide) | exact .inr (.inl rfl) | exact .inr (.inr rfl)) (by first | exact .inl (by decide) | exact .inr (.inl (by decide)) | exact .inr (.inr fun s2 => by simp [hstb, gStb, abuiltin, alenOk, alen, ti36, hid, hs, hl, ob])) ?_; (focus (first | (simp [hstb, gStb, abuiltin, alenOk, alen, ti36, hid, hs, hl, ob]; done) | (simp [hstb, gStb, abuiltin, alenOk, alen, ti36, hid, hs, hl, ob]; omega))); clear hA hB A B) | (refine hB ?_; clear hA hB A B))
    | (refine RQ.st fun A B hA hB => ?_; simp [hstb, gStb, abuiltin, alenOk, alen, ti36, hid, hs, hl, ob, onW_t, onW_f, onV_s]; first | (refine hA _ _ _ ?_ (by first | exact .inl rfl | exact .inr (by decide)) ?_; (focus (first | (simp [hstb, gStb, abuiltin, alenOk, alen, ti36, hid, hs, hl, ob]; done) | (simp [hstb, gStb, abuiltin, alenOk, alen, ti36, hid, hs, hl, ob]; omega))); clear hA hB A B) | (refine hB ?_; clear hA hB A B))
    | refine WP.sr fun k hk => ?_ | refine WP.r fun k hk => ?_ | refine WP.sd _ rfl fun k hk => ?_ | refine WP.d _ rfl fun k hk => ?_
    | (refine WP.cc fun A B hA hB => ?_; simp [hstb, gStb, abuiltin, alenOk, alen, ti36, hid, hs, hl, ob, onB_t, onB_f]; first | (refine hA ?_; clear hA hB A B) | (refine hB ?_; clear hA hB A B) | (refine onB_if (fun h => hA ?_) (fun h => hB ?_) <;> clear hA hB A B))
    | refine WP.q ?_ | refine WP.b ?_)
  exact finRow (.inl rfl) hid rfl
noncomputable def U2 : Fns := U1.add 35 gStb2
theorem U2_ok (hK : 0 < K) (hT : Tens gw) : FOk (env K gw) U2 := by
  refine (U1_ok hK hT).add fun xs s r s' l h => ?_
  unfold gStb2 at h
  split at h
  · rename_i id n
    split at h
    · rename_i hid
      split at h
      · rename_i hs
        split at h
        · rename_i D hD
          split at h
          · rename_i hc
            cases h
            obtain ⟨⟨rfl, hl⟩, h6⟩ := hc
            rw [decD_eq hD] at hs
            exact ft35 hK hT D hid hs hl (okB_iff.1 h6)
          · cases h
        · cases h
      · cases h
    · cases h
  · cases h
/-- Of slices.Clone. -/
def gCln (xs : List AV) (s : St) : Option (AV × St × List Nat) :=
  match xs with
  | [.sl es] => match decD es with
    | some D => if D.length < 268435456 then some (.ls (s.nx + 1) 0 D.length, stC s D, []) else none
    | none => none
  | _ => none
noncomputable def U3 : Fns := U2.add 34 gCln
theorem U3_ok (hK : 0 < K) (hT : Tens gw) : FOk (env K gw) U3 := by
  refine (U2_ok hK hT).add fun xs s r s' l h => ?_
  unfold gCln at h
  split at h
  · split at h
    · rename_i D hD
      split at h
      · rename_i hl
        cases h
        rw [decD_eq hD]
        have : (fun id => id ∈ ([] : List Nat)) = NoW := by funext id; simp
        rw [this]
        exact ft34 hK hT D hl
      · cases h
    · cases h
  · cases h
/-- Of the closure that tells whether two rows are alike. -/
def pAlk : List AV → Option AV
  | [.sl a, .sl b] => match decL a, decL b with
    | some x, some y => if x.length < LIM ∧ y.length < LIM then some (.bool (decide (cmpT x y = 0))) else none
    | _, _ => none
  | _ => none
set_option maxRecDepth 20000 in
set_option maxHeartbeats 16000000 in
theorem ft37 (hK : 0 < K) (hT : Tens gw) (x y : List V) (hx : x.length < LIM) (hy : y.length < LIM) :
    FT (env K gw) NoW 37 [.sl (x.map V.cs), .sl (y.map V.cs)] s (.bool (decide (cmpT x y = 0))) s := by
  refine FT.pure (fn := Tryd.f37) (U3_ok hK hT) mixed Tryd.func37 (by kernel_rfl) (by rfl) rfl rfl (by simp) (by kernel_rfl) fun μ w => ?_
  have hcmp : U3 11 [.sl (x.map V.cs), .sl (y.map V.cs)] s = some (.int .i64 (cmpT x y), s, []) := by
    simp [U3, U2, U1, F13, F12, F11, F10, F9, F8, F7, F6, F5, F4, Fns.add, Fns.addP, pCmpT, hx, hy]
  have hb : (cmpT x y == 0) = decide (cmpT x y = 0) := by
    by_cases h : cmpT x y = 0 <;> simp [h]
  repeat' (first
    | refine WP.t ?_ | refine WP.k ?_ | refine WP.e ?_ | refine Qn ?_ | refine Qr ?_ | refine Qe ?_ | refine Bn ?_ | refine Br ?_ | refine Be ?_ | refine Bx (by decide) ?_
    | (refine RS.nl ?_; refine hk _ _ ?_; clear hk k)
    | (refine RS.st fun A B hA hB => ?_; simp [hcmp, hb, onW_t, onW_f, onV_s]; first | (refine hA _ _ _ ?_ ?_; (focus (first | (simp [hcmp, hb]; done) | (simp [hcmp, hb]; omega))); clear hA hB A B) | (refine hB ?_; clear hA hB A B))
    | (refine RQ.nl ?_; refine hk _ _ ?_; clear hk k)
    | (refine RW.nl ?_; refine hk _ _ ?_; clear hk k)
    | (refine RW.st fun A B hA hB => ?_; simp [hcmp, hb, onW_t, onW_f, onV_s]; first | (refine hA _ _ _ ?_ (by first | exact .inl (by decide) | exact .inr (.inl rfl) | exact .inr (.inr rfl)) (by first | exact .inl (by decide) | exact .inr (.inl (by decide)) | exact .inr (.inr fun s2 => by simp [hcmp, hb])) ?_; (focus (first | (simp [hcmp, hb]; done) | (simp [hcmp, hb]; omega))); clear hA hB A B) | (refine hB ?_; clear hA hB A B))
    | (refine RQ.st fun A B hA hB => ?_; simp [hcmp, hb, onW_t, onW_f, onV_s]; first | (refine hA _ _ _ ?_ (by first | exact .inl rfl | exact .inr (by decide)) ?_; (focus (first | (simp [hcmp, hb]; done) | (simp [hcmp, hb]; omega))); clear hA hB A B) | (refine hB ?_; clear hA hB A B))
    | refine WP.sr fun k hk => ?_ | refine WP.r fun k hk => ?_ | refine WP.sd _ rfl fun k hk => ?_ | refine WP.d _ rfl fun k hk => ?_
    | (refine WP.cc fun A B hA hB => ?_; simp [hcmp, hb, onB_t, onB_f]; first | (refine hA ?_; clear hA hB A B) | (refine hB ?_; clear hA hB A B) | (refine onB_if (fun h => hA ?_) (fun h => hB ?_) <;> clear hA hB A B))
    | refine WP.q ?_ | refine WP.b ?_)
  exact ⟨.inr rfl, rfl, by simp⟩
noncomputable def U4 : Fns := U3.addP 37 pAlk
theorem U4_ok (hK : 0 < K) (hT : Tens gw) : FOk (env K gw) U4 := by
  refine (U3_ok hK hT).addP fun xs s r h => ?_
  unfold pAlk at h
  split at h
  · split at h
    · rename_i x y hx hy
      split at h
      · rename_i hl
        cases h
        rw [decL_eq hx, decL_eq hy]
        exact ft37 hK hT x y hl.1 hl.2
      · cases h
    · cases h
  · cases h
end
end Go.Am
namespace Go.Am
open Go.Proofs
def ddp : List V → Rows0 → Rows0
  | _, [] => []
  | p, x :: l => if cmpT x p = 0 then ddp x l else x :: ddp x l
/-- Each that is unlike the one ahead. -/
def compT : Rows0 → Rows0
  | [] => []
  | x :: l => x :: ddp x l
theorem ddp_length : ∀ (p : List V) (l : Rows0), (ddp p l).length ≤ l.length
  | _, [] => Nat.le_refl _
  | p, x :: l => by
    unfold ddp
    have := ddp_length x l
    split <;> simp <;> omega
theorem compT_length (l : Rows0) : (compT l).length ≤ l.length := by
  cases l with
  | nil => exact Nat.le_refl _
  | cons x l => have := ddp_length x l; simp [compT]; omega
def esC (D : Rows0) : List (List AV) := encD (compT D) ++ List.replicate (D.length - (compT D).length) [AV.nsl]
section
variable {K : Nat} {gw : World} {s : St}
attribute [local simp] RS_cons' RS_nil RQ_nil RQ_cons' awanted xop zOf zrow aop ev T0 Slots.put Slots.set Slots.get awr WOk AV.may ofConst abinop aint isConst St.get_push St.get_put St.live AV.fit AV.cells AV.one fieldOf afieldAddr aload ofCells astore splice May eqres env_ti FinP ares aresL ares1 Fns.addP Fns.add
theorem esC_of {D : Rows0} (h : compT D = D) : esC D = encD D := by unfold esC; rw [h]; simp
theorem below_esC (n : Nat) (D : Rows0) : OBelow n (.row 1 (true, 22) (esC D)) := by
  rw [obelow_row]
  intro e he x hx
  unfold esC at he
  rcases List.mem_append.1 he with he | he
  · have := belowO n (compT D)
    rw [obelow_row] at this
    exact this e he x hx
  · rw [List.eq_of_mem_replicate he] at hx
    simp at hx
    subst hx
    exact .nsl
theorem finRow2 {E : Env} {rs : Array ResultVar} {id : Nat} {es : List (List AV)} {r : AV} {T : Slots} {e : Exit} (he : e = .normal ∨ e = .ret) (hid : id < s.nx) (hr : ares E T (s.put id (.row 1 (true, 22) es)) rs = some r) (hb : Below s.nx r)
    (ho : OBelow s.nx (.row 1 (true, 22) es)) :
    FinW E rs (fun i => i ∈ [id]) s r (s.put id (.row 1 (true, 22) es)) e T (s.put id (.row 1 (true, 22) es)) := by
  refine ⟨he, hr, hb, Nat.le_refl _, Nat.le_refl _, fun hsame => ⟨fun j hj => rfl, fun j hj hm o ho' => ?_⟩⟩
  rcases hm with hm | hm
  · simp at hm
    subst hm
    rw [St.get_put_same] at ho'
    cases ho'
    exact ho
  · have : j < s.nx := hj
    omega
set_option maxRecDepth 20000 in
set_option maxHeartbeats 16000000 in
theorem ft36a (hK : 0 < K) (hT : Tens gw) {id : Nat} (D : Rows0) (hid : id < s.nx) (hs : s.get id = some (rowO D)) (hl : D.length < 268435456) (hok : okD D) :
    FT (env K gw) (fun i => i ∈ [id]) 36 [.ls id 0 D.length, .fn (.func 37) [] []] s (.ls id 0 (compT D).length) (s.put id (.row 1 (true, 22) (esC D))) := by
  refine FT.own (fn := Tryd.f36) (U4_ok hK hT) mixed Tryd.func36 (by kernel_rfl) (by rfl) rfl rfl (by simp) (by kernel_rfl) fun μ w => ?_
  have heq : ∀ (x y : List V) (s : St), x.length < LIM → y.length < LIM → U4 37 [.sl (x.map V.cs), .sl (y.map V.cs)] s = some (.bool (decide (cmpT x y = 0)), s, []) := fun x y s hx hy => by
    simp [U4, Fns.addP, pAlk, hx, hy]
  by_cases h2 : D.length < 2
  · have h2i : (D.length : Int) < 2 := by omega
    have hc : compT D = D := by
      match D, h2 with
      | [], _ => rfl
      | [x], _ => rfl
      | _ :: _ :: _, h => simp at h; omega
    have hes := esC_of hc
    rw [hes, hc, St.put_self hs]
    repeat' (first
      | refine WP.t ?_ | refine WP.k ?_ | refine WP.e ?_ | refine Qn ?_ | refine Qr ?_ | refine Qe ?_ | refine Bn ?_ | refine Br ?_ | refine Be ?_ | refine Bx (by decide) ?_
      | (refine RS.nl ?_; refine hk _ _ ?_; clear hk k)
      | (refine RS.st fun A B hA hB => ?_; simp [abuiltin, alenOk, alen, ti36, hid, hs, hl, h2i, onW_t, onW_f, onV_s]; first | (refine hA _ _ _ ?_ ?_; (focus (first | (simp [abuiltin, alenOk, alen, ti36, hid, hs, hl, h2i]; done) | (simp [abuiltin, alenOk, alen, ti36, hid, hs, hl, h2i]; omega))); clear hA hB A B) | (refine hB ?_; clear hA hB A B))
      | (refine RQ.nl ?_; refine hk _ _ ?_; clear hk k)
      | (refine RW.nl ?_; refine hk _ _ ?_; clear hk k)
      | (refine RW.st fun A B hA hB => ?_; simp [abuiltin, alenOk, alen, ti36, hid, hs, hl, h2i, onW_t, onW_f, onV_s]; first | (refine hA _ _ _ ?_ (by first | exact .inl (by decide) | exact .inr (.inl rfl) | exact .inr (.inr rfl)) (by first | exact .inl (by decide) | exact .inr (.inl (by decide)) | exact .inr (.inr fun s2 => by simp [abuiltin, alenOk, alen, ti36, hid, hs, hl, h2i])) ?_; (focus (first | (simp [abuiltin, alenOk, alen, ti36, hid, hs, hl, h2i]; done) | (simp [abuiltin, alenOk, alen, ti36, hid, hs, hl, h2i]; omega))); clear hA hB A B) | (refine hB ?_; clear hA hB A B))
      | (refine RQ.st fun A B hA hB => ?_; simp [abuiltin, alenOk, alen, ti36, hid, hs, hl, h2i, onW_t, onW_f, onV_s]; first | (refine hA _ _ _ ?_ (by first | exact .inl rfl | exact .inr (by decide)) ?_; (focus (first | (simp [abuiltin, alenOk, alen, ti36, hid, hs, hl, h2i]; done) | (simp [abuiltin, alenOk, alen, ti36, hid, hs, hl, h2i]; omega))); clear hA hB A B) | (refine hB ?_; clear hA hB A B))
      | refine WP.sr fun k hk => ?_ | refine WP.r fun k hk => ?_ | refine WP.sd _ rfl fun k hk => ?_ | refine WP.d _ rfl fun k hk => ?_
      | (refine WP.cc fun A B hA hB => ?_; simp [abuiltin, alenOk, alen, ti36, hid, hs, hl, h2i, onB_t, onB_f]; first | (refine hA ?_; clear hA hB A B) | (refine hB ?_; clear hA hB A B) | (refine onB_if (fun h => hA ?_) (fun h => hB ?_) <;> clear hA hB A B))
      | refine WP.q ?_ | refine WP.b ?_)
    have := finRow2 (s := s) (E := env K gw) (rs := Tryd.f36.results) (id := id) (es := encD D) (r := .ls id 0 D.length) (e := .ret) (.inr rfl) hid (T := [(4, .ls id 0 D.length)]) rfl (by simp [hid]) (belowO _ _)
    rw [St.put_self hs] at this
    exact this
  · have h2i : ¬ (D.length : Int) < 2 := by omega
    have hc1 : compT D = D.take 1 ++ ddp (gD D (1 - 1)) (D.drop 1) := by
      match D, h2 with
      | [], h => simp at h
      | x :: l, _ => rfl
    repeat' (first
      | refine WP.t ?_ | refine WP.k ?_ | refine WP.e ?_ | refine Qn ?_ | refine Qr ?_ | refine Qe ?_ | refine Bn ?_ | refine Br ?_ | refine Be ?_ | refine Bx (by decide) ?_
      | (refine RS.nl ?_; refine hk _ _ ?_; clear hk k)
      | (refine RS.st fun A B hA hB => ?_; simp [abuiltin, alenOk, alen, ti36, hid, hs, hl, h2i, onW_t, onW_f, onV_s]; first | (refine hA _ _ _ ?_ ?_; (focus (first | (simp [abuiltin, alenOk, alen, ti36, hid, hs, hl, h2i]; done) | (simp [abuiltin, alenOk, alen, ti36, hid, hs, hl, h2i]; omega))); clear hA hB A B) | (refine hB ?_; clear hA hB A B))
      | (refine RQ.nl ?_; refine hk _ _ ?_; clear hk k)
      | (refine RW.nl ?_; refine hk _ _ ?_; clear hk k)
      | (refine RW.st fun A B hA hB => ?_; simp [abuiltin, alenOk, alen, ti36, hid, hs, hl, h2i, onW_t, onW_f, onV_s]; first | (refine hA _ _ _ ?_ (by first | exact .inl (by decide) | exact .inr (.inl rfl) | exact .inr (.inr rfl)) (by first | exact .inl (by decide) | exact .inr (.inl (by decide)) | exact .inr (.inr fun s2 => by simp [abuiltin, alenOk, alen, ti36, hid, hs, hl, h2i])) ?_; (focus (first | (simp [abuiltin, alenOk, alen, ti36, hid, hs, hl, h2i]; done) | (simp [abuiltin, alenOk, alen, ti36, hid, hs, hl, h2i]; omega))); clear hA hB A B) | (refine hB ?_; clear hA hB A B))
      | (refine RQ.st fun A B hA hB => ?_; simp [abuiltin, alenOk, alen, ti36, hid, hs, hl, h2i, onW_t, onW_f, onV_s]; first | (refine hA _ _ _ ?_ (by first | exact .inl rfl | exact .inr (by decide)) ?_; (focus (first | (simp [abuiltin, alenOk, alen, ti36, hid, hs, hl, h2i]; done) | (simp [abuiltin, alenOk, alen, ti36, hid, hs, hl, h2i]; omega))); clear hA hB A B) | (refine hB ?_; clear hA hB A B))
      | refine WP.sr fun k hk => ?_ | refine WP.r fun k hk => ?_ | refine WP.sd _ rfl fun k hk => ?_ | refine WP.d _ rfl fun k hk => ?_
      | (refine WP.cc fun A B hA hB => ?_; simp [abuiltin, alenOk, alen, ti36, hid, hs, hl, h2i, onB_t, onB_f]; first | (refine hA ?_; clear hA hB A B) | (refine hB ?_; clear hA hB A B) | (refine onB_if (fun h => hA ?_) (fun h => hB ?_) <;> clear hA hB A B))
      | refine WP.q ?_ | refine WP.b ?_)
    refine WP_loop (fun q T s' => ∃ (a : Nat), q = D.length - a ∧ 1 ≤ a ∧ a ≤ D.length ∧ s' = s ∧ compT D = D.take a ++ ddp (gD D (a - 1)) (D.drop a) ∧ T.get 0 = .ls id 0 D.length ∧ T.get 1 = .fn (.func 37) [] [] ∧ T.get 5 = .int .i64 a)
      (D.length - 1) ⟨1, rfl, Nat.le_refl _, by omega, rfl, hc1, by simp, by simp, by simp⟩ ?_
    rintro q T s' ⟨a, hq, ha1, han, rfl, hca, g0, g1, g5⟩
    by_cases hlt : a < D.length
    · obtain ⟨c, rfl⟩ : ∃ c, a = c + 1 := ⟨a - 1, by omega⟩
      have hlti : (c : Int) + 1 < (D.length : Int) := by omega
      have i1 : c + 1 < D.length := hlt
      have i2 : c < D.length := by omega
      have w4 : IntKind.i64.wrap ((c : Int) + 1 - 1) = (c : Int) := by rw [Int.add_sub_cancel]; exact wrap64 (by omega) (by omega)
      have w4' : IntKind.i64.wrap (c : Int) = (c : Int) := wrap64 (by omega) (by omega)
      have w5 : IntKind.i64.wrap ((c : Int) + 1 + 1) = (c : Int) + 1 + 1 := wrap64 (by omega) (by omega)
      have p1 : 0 ≤ (c : Int) + 1 := by omega
      have p3 : ((c : Int) + 1).toNat = c + 1 := by omega
      have p5 : (c : Int) < (D.length : Int) := by omega
      have hx := encD_get i1
      have hy := encD_get i2
      have ox := hok _ (List.getElem_mem i1)
      have oy := hok _ (List.getElem_mem i2)
      have e1 := gD_of i1
      have e2 := gD_of i2
      have hdr : D.drop (c + 1) = D[c + 1] :: D.drop (c + 2) := List.drop_eq_getElem_cons i1
      have htk : D.take (c + 2) = D.take (c + 1) ++ [D[c + 1]] := by rw [List.take_add_one, List.getElem?_eq_getElem i1]; rfl
      have hc2 : c + 1 - 1 = c := by omega
      rw [hdr, hc2, e2] at hca
      generalize hxx : D[c + 1] = x at *
      generalize D[c] = y at *
      have rwx : Rw x = [.sl (x.map V.cs)] := rfl
      have rwy : Rw y = [.sl (y.map V.cs)] := rfl
      have hxy := heq x y
      by_cases hc : cmpT x y = 0
      · have hcb : compT D = D.take (c + 1) ++ ddp (gD D (c + 1 + 1 - 1)) (D.drop (c + 1 + 1)) := by
          rw [hca, ddp, if_pos hc]
          have : c + 1 + 1 - 1 = c + 1 := by omega
          rw [this, e1]
        have n1 : (c : Int) + 1 ≤ (D.length : Int) := by omega
        repeat' (first
          | refine WP.t ?_ | refine WP.k ?_ | refine WP.e ?_ | refine Qn ?_ | refine Qr ?_ | refine Qe ?_ | refine Bn ?_ | refine Br ?_ | refine Be ?_ | refine Bx (by decide) ?_
          | (refine RS.nl ?_; refine hk _ _ ?_; clear hk k)
          | (refine RS.st fun A B hA hB => ?_; simp [hxy, g0, g1, g5, abuiltin, alenOk, alen, hlti, w4, w4', w5, p1, p3, p5, hx, hy, ox, oy, hc, ti36, ti22, elemOfT, aindex, hs, asliceOk, aslice, abound, n1, rwx, rwy, hid, onW_t, onW_f, onV_s]; first | (refine hA _ _ _ ?_ ?_; (focus (first | (simp [hxy, g0, g1, g5, abuiltin, alenOk, alen, hlti, w4, w4', w5, p1, p3, p5, hx, hy, ox, oy, hc, ti36, ti22, elemOfT, aindex, hs, asliceOk, aslice, abound, n1, rwx, rwy, hid]; done) | (simp [hxy, g0, g1, g5, abuiltin, alenOk, alen, hlti, w4, w4', w5, p1, p3, p5, hx, hy, ox, oy, hc, ti36, ti22, elemOfT, aindex, hs, asliceOk, aslice, abound, n1, rwx, rwy, hid]; omega))); clear hA hB A B) | (refine hB ?_; clear hA hB A B))
          | (refine RQ.nl ?_; refine hk _ _ ?_; clear hk k)
          | (refine RW.nl ?_; refine hk _ _ ?_; clear hk k)
          | (refine RW.st fun A B hA hB => ?_; simp [hxy, g0, g1, g5, abuiltin, alenOk, alen, hlti, w4, w4', w5, p1, p3, p5, hx, hy, ox, oy, hc, ti36, ti22, elemOfT, aindex, hs, asliceOk, aslice, abound, n1, rwx, rwy, hid, onW_t, onW_f, onV_s]; first | (refine hA _ _ _ ?_ (by first | exact .inl (by decide) | exact .inr (.inl rfl) | exact .inr (.inr rfl)) (by first | exact .inl (by decide) | exact .inr (.inl (by decide)) | exact .inr (.inr fun s2 => by simp [hxy, g0, g1, g5, abuiltin, alenOk, alen, hlti, w4, w4', w5, p1, p3, p5, hx, hy, ox, oy, hc, ti36, ti22, elemOfT, aindex, hs, asliceOk, aslice, abound, n1, rwx, rwy, hid])) ?_; (focus (first | (simp [hxy, g0, g1, g5, abuiltin, alenOk, alen, hlti, w4, w4', w5, p1, p3, p5, hx, hy, ox, oy, hc, ti36, ti22, elemOfT, aindex, hs, asliceOk, aslice, abound, n1, rwx, rwy, hid]; done) | (simp [hxy, g0, g1, g5, abuiltin, alenOk, alen, hlti, w4, w4', w5, p1, p3, p5, hx, hy, ox, oy, hc, ti36, ti22, elemOfT, aindex, hs, asliceOk, aslice, abound, n1, rwx, rwy, hid]; omega))); clear hA hB A B) | (refine hB ?_; clear hA hB A B))
          | (refine RQ.st fun A B hA hB => ?_; simp [hxy, g0, g1, g5, abuiltin, alenOk, alen, hlti, w4, w4', w5, p1, p3, p5, hx, hy, ox, oy, hc, ti36, ti22, elemOfT, aindex, hs, asliceOk, aslice, abound, n1, rwx, rwy, hid, onW_t, onW_f, onV_s]; first | (refine hA _ _ _ ?_ (by first | exact .inl rfl | exact .inr (by decide)) ?_; (focus (first | (simp [hxy, g0, g1, g5, abuiltin, alenOk, alen, hlti, w4, w4', w5, p1, p3, p5, hx, hy, ox, oy, hc, ti36, ti22, elemOfT, aindex, hs, asliceOk, aslice, abound, n1, rwx, rwy, hid]; done) | (simp [hxy, g0, g1, g5, abuiltin, alenOk, alen, hlti, w4, w4', w5, p1, p3, p5, hx, hy, ox, oy, hc, ti36, ti22, elemOfT, aindex, hs, asliceOk, aslice, abound, n1, rwx, rwy, hid]; omega))); clear hA hB A B) | (refine hB ?_; clear hA hB A B))
          | refine WP.sr fun k hk => ?_ | refine WP.r fun k hk => ?_ | refine WP.sd _ rfl fun k hk => ?_ | refine WP.d _ rfl fun k hk => ?_
          | (refine WP.cc fun A B hA hB => ?_; simp [hxy, g0, g1, g5, abuiltin, alenOk, alen, hlti, w4, w4', w5, p1, p3, p5, hx, hy, ox, oy, hc, ti36, ti22, elemOfT, aindex, hs, asliceOk, aslice, abound, n1, rwx, rwy, hid, onB_t, onB_f]; first | (refine hA ?_; clear hA hB A B) | (refine hB ?_; clear hA hB A B) | (refine onB_if (fun h => hA ?_) (fun h => hB ?_) <;> clear hA hB A B))
          | refine WP.q ?_ | refine WP.b ?_)
        have hcn : (D.length : Int).toNat - (c + 1) = D.length - (c + 1) := by omega
        refine WP_loop (fun q T s2 => ∃ (i r : Nat) (D1 : Rows0), q = D.length - (c + 1 + (r + 1)) ∧ s2 = s'.put id (rowO D1) ∧ D1.length = D.length ∧ okD D1 ∧ c + 1 ≤ i ∧ i ≤ c + 1 + r ∧ c + 1 + (r + 1) ≤ D.length ∧ (∀ j, c + 1 + r ≤ j → D1[j]? = D[j]?) ∧
            compT D = D1.take i ++ ddp (gD D (c + 1 + r)) (D.drop (c + 1 + (r + 1))) ∧ T.get 0 = .ls id 0 D.length ∧ T.get 1 = .fn (.func 37) [] [] ∧ T.get 5 = .int .i64 i ∧ T.get 6 = .ls id (c + 1) (D.length - (c + 1)) ∧ T.get 7 = .int .i64 ((r + 1 : Nat) : Int))
          (D.length - (c + 1 + 1)) ⟨c + 1, 0, D, rfl, (St.put_self hs).symm, rfl, hok, by omega, by omega, by omega, fun _ _ => rfl, hcb, by simp [g0], by simp [g1], by simp [g5], by simp, by simp⟩ ?_
        rintro q2 T2 s2 ⟨i, r, D1, hq2, rfl, hD1, hok1, hci, hir, hrn, hsame, hcc, k0, k1, k5, k6, k7⟩
        by_cases hlt2 : c + 1 + (r + 1) < D.length
        · have hlt2i : (r : Int) + 1 < ((D.length - (c + 1) : Nat) : Int) := by omega
          have i3 : c + 1 + (r + 1) < D1.length := by omega
          have i4 : c + 1 + r < D1.length := by omega
          have v4 : IntKind.i64.wrap ((r : Int) + 1 - 1) = (r : Int) := by rw [Int.add_sub_cancel]; exact wrap64 (by omega) (by omega)
          have v4' : IntKind.i64.wrap (r : Int) = (r : Int) := wrap64 (by omega) (by omega)
          have v5 : IntKind.i64.wrap ((r : Int) + 1 + 1) = (r : Int) + 1 + 1 := wrap64 (by omega) (by omega)
          have v6 : IntKind.i64.wrap ((i : Int) + 1) = (i : Int) + 1 := wrap64 (by omega) (by omega)
          have q1 : 0 ≤ (r : Int) + 1 := by omega
          have q2' : ((r : Int) + 1).toNat = r + 1 := by omega
          have q3 : (r : Int) < ((D.length - (c + 1) : Nat) : Int) := by omega
          have q4 : (i : Int) < (D.length : Int) := by omega
          have q5 : (0 : Int) ≤ (i : Int) := by omega
          have q6 : (0 : Int) ≤ (r : Int) := by omega
          have s1 := hsame (c + 1 + (r + 1)) (by omega)
          have s2 := hsame (c + 1 + r) (Nat.le_refl _)
          have hx := encD_get i3
          have hy := encD_get i4
          have ox := hok1 _ (List.getElem_mem i3)
          have oy := hok1 _ (List.getElem_mem i4)
          have d1 : gD D (c + 1 + (r + 1)) = D1[c + 1 + (r + 1)] := by unfold gD; rw [← s1, List.getElem?_eq_getElem i3]; rfl
          have d2 : gD D (c + 1 + r) = D1[c + 1 + r] := by unfold gD; rw [← s2, List.getElem?_eq_getElem i4]; rfl
          have hdr2 : D.drop (c + 1 + (r + 1)) = D1[c + 1 + (r + 1)] :: D.drop (c + 1 + (r + 1 + 1)) := by
            rw [List.drop_eq_getElem_cons hlt2]
            congr 1
            rw [List.getElem?_eq_getElem i3, List.getElem?_eq_getElem hlt2] at s1
            exact (Option.some.inj s1).symm
          rw [hdr2, d2] at hcc
          generalize D1[c + 1 + (r + 1)] = x2 at *
          generalize D1[c + 1 + r] = y2 at *
          have rwx : Rw x2 = [.sl (x2.map V.cs)] := rfl
          have rwy : Rw y2 = [.sl (y2.map V.cs)] := rfl
          have heqq := heq x2 y2
          by_cases hc2 : cmpT x2 y2 = 0
          · rw [ddp, if_pos hc2, ← d1] at hcc
            repeat' (first
              | refine WP.t ?_ | refine WP.k ?_ | refine WP.e ?_ | refine Qn ?_ | refine Qr ?_ | refine Qe ?_ | refine Bn ?_ | refine Br ?_ | refine Be ?_ | refine Bx (by decide) ?_
              | (refine RS.nl ?_; refine hk _ _ ?_; clear hk k)
              | (refine RS.st fun A B hA hB => ?_; simp [heqq, k0, k1, k5, k6, k7, abuiltin, alenOk, alen, hlt2i, v4, v4', v5, v6, q1, q2', q3, q4, q5, q6, hx, hy, ox, oy, hc2, ti36, ti22, elemOfT, aindex, St.get_put_same, asliceOk, aslice, abound, rwx, rwy, hid, onW_t, onW_f, onV_s]; first | (refine hA _ _ _ ?_ ?_; (focus (first | (simp [heqq, k0, k1, k5, k6, k7, abuiltin, alenOk, alen, hlt2i, v4, v4', v5, v6, q1, q2', q3, q4, q5, q6, hx, hy, ox, oy, hc2, ti36, ti22, elemOfT, aindex, St.get_put_same, asliceOk, aslice, abound, rwx, rwy, hid]; done) | (simp [heqq, k0, k1, k5, k6, k7, abuiltin, alenOk, alen, hlt2i, v4, v4', v5, v6, q1, q2', q3, q4, q5, q6, hx, hy, ox, oy, hc2, ti36, ti22, elemOfT, aindex, St.get_put_same, asliceOk, aslice, abound, rwx, rwy, hid]; omega))); clear hA hB A B) | (refine hB ?_; clear hA hB A B))
              | (refine RQ.nl ?_; refine hk _ _ ?_; clear hk k)
              | (refine RW.nl ?_; refine hk _ _ ?_; clear hk k)
              | (refine RW.st fun A B hA hB => ?_; simp [heqq, k0, k1, k5, k6, k7, abuiltin, alenOk, alen, hlt2i, v4, v4', v5, v6, q1, q2', q3, q4, q5, q6, hx, hy, ox, oy, hc2, ti36, ti22, elemOfT, aindex, St.get_put_same, asliceOk, aslice, abound, rwx, rwy, hid, onW_t, onW_f, onV_s]; first | (refine hA _ _ _ ?_ (by first | exact .inl (by decide) | exact .inr (.inl rfl) | exact .inr (.inr rfl)) (by first | exact .inl (by decide) | exact .inr (.inl (by decide)) | exact .inr (.inr fun s2 => by simp [heqq, k0, k1, k5, k6, k7, abuiltin, alenOk, alen, hlt2i, v4, v4', v5, v6, q1, q2', q3, q4, q5, q6, hx, hy, ox, oy, hc2, ti36, ti22, elemOfT, aindex, St.get_put_same, asliceOk, aslice, abound, rwx, rwy, hid])) ?_; (focus (first | (simp [heqq, k0, k1, k5, k6, k7, abuiltin, alenOk, alen, hlt2i, v4, v4', v5, v6, q1, q2', q3, q4, q5, q6, hx, hy, ox, oy, hc2, ti36, ti22, elemOfT, aindex, St.get_put_same, asliceOk, aslice, abound, rwx, rwy, hid]; done) | (simp [heqq, k0, k1, k5, k6, k7, abuiltin, alenOk, alen, hlt2i, v4, v4', v5, v6, q1, q2', q3, q4, q5, q6, hx, hy, ox, oy, hc2, ti36, ti22, elemOfT, aindex, St.get_put_same, asliceOk, aslice, abound, rwx, rwy, hid]; omega))); clear hA hB A B) | (refine hB ?_; clear hA hB A B))
              | (refine RQ.st fun A B hA hB => ?_; simp [heqq, k0, k1, k5, k6, k7, abuiltin, alenOk, alen, hlt2i, v4, v4', v5, v6, q1, q2', q3, q4, q5, q6, hx, hy, ox, oy, hc2, ti36, ti22, elemOfT, aindex, St.get_put_same, asliceOk, aslice, abound, rwx, rwy, hid, onW_t, onW_f, onV_s]; first | (refine hA _ _ _ ?_ (by first | exact .inl rfl | exact .inr (by decide)) ?_; (focus (first | (simp [heqq, k0, k1, k5, k6, k7, abuiltin, alenOk, alen, hlt2i, v4, v4', v5, v6, q1, q2', q3, q4, q5, q6, hx, hy, ox, oy, hc2, ti36, ti22, elemOfT, aindex, St.get_put_same, asliceOk, aslice, abound, rwx, rwy, hid]; done) | (simp [heqq, k0, k1, k5, k6, k7, abuiltin, alenOk, alen, hlt2i, v4, v4', v5, v6, q1, q2', q3, q4, q5, q6, hx, hy, ox, oy, hc2, ti36, ti22, elemOfT, aindex, St.get_put_same, asliceOk, aslice, abound, rwx, rwy, hid]; omega))); clear hA hB A B) | (refine hB ?_; clear hA hB A B))
              | refine WP.sr fun k hk => ?_ | refine WP.r fun k hk => ?_ | refine WP.sd _ rfl fun k hk => ?_ | refine WP.d _ rfl fun k hk => ?_
              | (refine WP.cc fun A B hA hB => ?_; simp [heqq, k0, k1, k5, k6, k7, abuiltin, alenOk, alen, hlt2i, v4, v4', v5, v6, q1, q2', q3, q4, q5, q6, hx, hy, ox, oy, hc2, ti36, ti22, elemOfT, aindex, St.get_put_same, asliceOk, aslice, abound, rwx, rwy, hid, onB_t, onB_f]; first | (refine hA ?_; clear hA hB A B) | (refine hB ?_; clear hA hB A B) | (refine onB_if (fun h => hA ?_) (fun h => hB ?_) <;> clear hA hB A B))
              | refine WP.q ?_ | refine WP.b ?_)
            refine ⟨D.length - (c + 1 + (r + 1 + 1)), by omega, i, r + 1, D1, rfl, rfl, hD1, hok1, hci, by omega, by omega, fun j hj => hsame j (by omega), hcc, by simp [k0], by simp [k1], by simp [k5], by simp [k6], by simp [v5]⟩
          · rw [ddp, if_neg hc2, ← d1] at hcc
            have i5 : i < D1.length := by omega
            have hz := encD_get i5
            generalize D1[i] = z at *
            have rwz : Rw z = [.sl (z.map V.cs)] := rfl
            repeat' (first
              | refine WP.t ?_ | refine WP.k ?_ | refine WP.e ?_ | refine Qn ?_ | refine Qr ?_ | refine Qe ?_ | refine Bn ?_ | refine Br ?_ | refine Be ?_ | refine Bx (by decide) ?_
              | (refine RS.nl ?_; refine hk _ _ ?_; clear hk k)
              | (refine RS.st fun A B hA hB => ?_; simp [hz, rwz, heqq, k0, k1, k5, k6, k7, abuiltin, alenOk, alen, hlt2i, v4, v4', v5, v6, q1, q2', q3, q4, q5, q6, hx, hy, ox, oy, hc2, ti36, ti22, elemOfT, aindex, St.get_put_same, asliceOk, aslice, abound, rwx, rwy, hid, onW_t, onW_f, onV_s]; first | (refine hA _ _ _ ?_ ?_; (focus (first | (simp [hz, rwz, heqq, k0, k1, k5, k6, k7, abuiltin, alenOk, alen, hlt2i, v4, v4', v5, v6, q1, q2', q3, q4, q5, q6, hx, hy, ox, oy, hc2, ti36, ti22, elemOfT, aindex, St.get_put_same, asliceOk, aslice, abound, rwx, rwy, hid]; done) | (simp [hz, rwz, heqq, k0, k1, k5, k6, k7, abuiltin, alenOk, alen, hlt2i, v4, v4', v5, v6, q1, q2', q3, q4, q5, q6, hx, hy, ox, oy, hc2, ti36, ti22, elemOfT, aindex, St.get_put_same, asliceOk, aslice, abound, rwx, rwy, hid]; omega))); clear hA hB A B) | (refine hB ?_; clear hA hB A B))
              | (refine RQ.nl ?_; refine hk _ _ ?_; clear hk k)
              | (refine RW.nl ?_; refine hk _ _ ?_; clear hk k)
              | (refine RW.st fun A B hA hB => ?_; simp [hz, rwz, heqq, k0, k1, k5, k6, k7, abuiltin, alenOk, alen, hlt2i, v4, v4', v5, v6, q1, q2', q3, q4, q5, q6, hx, hy, ox, oy, hc2, ti36, ti22, elemOfT, aindex, St.get_put_same, asliceOk, aslice, abound, rwx, rwy, hid, onW_t, onW_f, onV_s]; first | (refine hA _ _ _ ?_ (by first | exact .inl (by decide) | exact .inr (.inl rfl) | exact .inr (.inr rfl)) (by first | exact .inl (by decide) | exact .inr (.inl (by decide)) | exact .inr (.inr fun s2 => by simp [hz, rwz, heqq, k0, k1, k5, k6, k7, abuiltin, alenOk, alen, hlt2i, v4, v4', v5, v6, q1, q2', q3, q4, q5, q6, hx, hy, ox, oy, hc2, ti36, ti22, elemOfT, aindex, St.get_put_same, asliceOk, aslice, abound, rwx, rwy, hid])) ?_; (focus (first | (simp [hz, rwz, heqq, k0, k1, k5, k6, k7, abuiltin, alenOk, alen, hlt2i, v4, v4', v5, v6, q1, q2', q3, q4, q5, q6, hx, hy, ox, oy, hc2, ti36, ti22, elemOfT, aindex, St.get_put_same, asliceOk, aslice, abound, rwx, rwy, hid]; done) | (simp [hz, rwz, heqq, k0, k1, k5, k6, k7, abuiltin, alenOk, alen, hlt2i, v4, v4', v5, v6, q1, q2', q3, q4, q5, q6, hx, hy, ox, oy, hc2, ti36, ti22, elemOfT, aindex, St.get_put_same, asliceOk, aslice, abound, rwx, rwy, hid]; omega))); clear hA hB A B) | (refine hB ?_; clear hA hB A B))
              | (refine RQ.st fun A B hA hB => ?_; simp [hz, rwz, heqq, k0, k1, k5, k6, k7, abuiltin, alenOk, alen, hlt2i, v4, v4', v5, v6, q1, q2', q3, q4, q5, q6, hx, hy, ox, oy, hc2, ti36, ti22, elemOfT, aindex, St.get_put_same, asliceOk, aslice, abound, rwx, rwy, hid, onW_t, onW_f, onV_s]; first | (refine hA _ _ _ ?_ (by first | exact .inl rfl | exact .inr (by decide)) ?_; (focus (first | (simp [hz, rwz, heqq, k0, k1, k5, k6, k7, abuiltin, alenOk, alen, hlt2i, v4, v4', v5, v6, q1, q2', q3, q4, q5, q6, hx, hy, ox, oy, hc2, ti36, ti22, elemOfT, aindex, St.get_put_same, asliceOk, aslice, abound, rwx, rwy, hid]; done) | (simp [hz, rwz, heqq, k0, k1, k5, k6, k7, abuiltin, alenOk, alen, hlt2i, v4, v4', v5, v6, q1, q2', q3, q4, q5, q6, hx, hy, ox, oy, hc2, ti36, ti22, elemOfT, aindex, St.get_put_same, asliceOk, aslice, abound, rwx, rwy, hid]; omega))); clear hA hB A B) | (refine hB ?_; clear hA hB A B))
              | refine WP.sr fun k hk => ?_ | refine WP.r fun k hk => ?_ | refine WP.sd _ rfl fun k hk => ?_ | refine WP.d _ rfl fun k hk => ?_
              | (refine WP.cc fun A B hA hB => ?_; simp [hz, rwz, heqq, k0, k1, k5, k6, k7, abuiltin, alenOk, alen, hlt2i, v4, v4', v5, v6, q1, q2', q3, q4, q5, q6, hx, hy, ox, oy, hc2, ti36, ti22, elemOfT, aindex, St.get_put_same, asliceOk, aslice, abound, rwx, rwy, hid, onB_t, onB_f]; first | (refine hA ?_; clear hA hB A B) | (refine hB ?_; clear hA hB A B) | (refine onB_if (fun h => hA ?_) (fun h => hB ?_) <;> clear hA hB A B))
              | refine WP.q ?_ | refine WP.b ?_)
            refine ⟨D.length - (c + 1 + (r + 1 + 1)), by omega, i + 1, r + 1, D1.set i x2, rfl, ?_, by simp [hD1], ?_, by omega, by omega, by omega, fun j hj => ?_, ?_, by simp [k0], by simp [k1], by simp [v6], by simp [k6], by simp [v5]⟩
            · rw [St.put_put]
              simp only [← rwx, encD_set]
            · intro t ht
              rcases List.mem_or_eq_of_mem_set ht with ht | rfl
              · exact hok1 t ht
              · exact ox
            · rw [List.getElem?_set_ne (by omega)]
              exact hsame j (by omega)
            · have : (D1.set i x2).take (i + 1) = D1.take i ++ [x2] := by
                rw [List.take_add_one, List.getElem?_set_self (by omega)]
                simp [List.take_set_of_le]
              rw [this, hcc, ← d1]
              simp
        · have hlt2i : ¬ (r : Int) + 1 < ((D.length - (c + 1) : Nat) : Int) := by omega
          have hre : c + 1 + (r + 1) = D.length := by omega
          rw [hre, List.drop_length] at hcc
          have hcc : compT D = D1.take i := by rw [hcc]; simp [ddp]
          have hcl : (compT D).length = i := by rw [hcc]; simp; omega
          have q4 : (i : Int) ≤ (D.length : Int) := by omega
          have q5 : (0 : Int) ≤ (i : Int) := by omega
          have q7 : i + (D.length - i) ≤ D1.length := by omega
          have q8 : i + (D.length - i) ≤ D.length := by omega
          have hes : splice (encD D1) i (List.replicate (D.length - i) [AV.nsl]) = esC D := by
            unfold splice esC
            rw [hcl, hcc]
            have : D1.length - (i + (D.length - i)) = 0 := by omega
            simp [encD, List.map_take, List.drop_eq_nil_iff]
            omega
          repeat' (first
            | refine WP.t ?_ | refine WP.k ?_ | refine WP.e ?_ | refine Qn ?_ | refine Qr ?_ | refine Qe ?_ | refine Bn ?_ | refine Br ?_ | refine Be ?_ | refine Bx (by decide) ?_
            | (refine RS.nl ?_; refine hk _ _ ?_; clear hk k)
            | (refine RS.st fun A B hA hB => ?_; simp [k0, k1, k5, k6, k7, abuiltin, alenOk, alen, hlt2i, q4, q5, q7, q8, ti36, ti22, elemOfT, St.get_put_same, asliceOk, aslice, abound, hid, aclear, AV.one, hD1, hes, onW_t, onW_f, onV_s]; first | (refine hA _ _ _ ?_ ?_; (focus (first | (simp [k0, k1, k5, k6, k7, abuiltin, alenOk, alen, hlt2i, q4, q5, q7, q8, ti36, ti22, elemOfT, St.get_put_same, asliceOk, aslice, abound, hid, aclear, AV.one, hD1, hes]; done) | (simp [k0, k1, k5, k6, k7, abuiltin, alenOk, alen, hlt2i, q4, q5, q7, q8, ti36, ti22, elemOfT, St.get_put_same, asliceOk, aslice, abound, hid, aclear, AV.one, hD1, hes]; omega))); clear hA hB A B) | (refine hB ?_; clear hA hB A B))
            | (refine RQ.nl ?_; refine hk _ _ ?_; clear hk k)
            | (refine RW.nl ?_; refine hk _ _ ?_; clear hk k)
            | (refine RW.st fun A B hA hB => ?_; simp [k0, k1, k5, k6, k7, abuiltin, alenOk, alen, hlt2i, q4, q5, q7, q8, ti36, ti22, elemOfT, St.get_put_same, asliceOk, aslice, abound, hid, aclear, AV.one, hD1, hes, onW_t, onW_f, onV_s]; first | (refine hA _ _ _ ?_ (by first | exact .inl (by decide) | exact .inr (.inl rfl) | exact .inr (.inr rfl)) (by first | exact .inl (by decide) | exact .inr (.inl (by decide)) | exact .inr (.inr fun s2 => by simp [k0, k1, k5, k6, k7, abuiltin, alenOk, alen, hlt2i, q4, q5, q7, q8, ti36, ti22, elemOfT, St.get_put_same, asliceOk, aslice, abound, hid, aclear, AV.one, hD1, hes])) ?_; (focus (first | (simp [k0, k1, k5, k6, k7, abuiltin, alenOk, alen, hlt2i, q4, q5, q7, q8, ti36, ti22, elemOfT, St.get_put_same, asliceOk, aslice, abound, hid, aclear, AV.one, hD1, hes]; done) | (simp [k0, k1, k5, k6, k7, abuiltin, alenOk, alen, hlt2i, q4, q5, q7, q8, ti36, ti22, elemOfT, St.get_put_same, asliceOk, aslice, abound, hid, aclear, AV.one, hD1, hes]; omega))); clear hA hB A B) | (refine hB ?_; clear hA hB A B))
            | (refine RQ.st fun A B hA hB => ?_; simp [k0, k1, k5, k6, k7, abuiltin, alenOk, alen, hlt2i, q4, q5, q7, q8, ti36, ti22, elemOfT, St.get_put_same, asliceOk, aslice, abound, hid, aclear, AV.one, hD1, hes, onW_t, onW_f, onV_s]; first | (refine hA _ _ _ ?_ (by first | exact .inl rfl | exact .inr (by decide)) ?_; (focus (first | (simp [k0, k1, k5, k6, k7, abuiltin, alenOk, alen, hlt2i, q4, q5, q7, q8, ti36, ti22, elemOfT, St.get_put_same, asliceOk, aslice, abound, hid, aclear, AV.one, hD1, hes]; done) | (simp [k0, k1, k5, k6, k7, abuiltin, alenOk, alen, hlt2i, q4, q5, q7, q8, ti36, ti22, elemOfT, St.get_put_same, asliceOk, aslice, abound, hid, aclear, AV.one, hD1, hes]; omega))); clear hA hB A B) | (refine hB ?_; clear hA hB A B))
            | refine WP.sr fun k hk => ?_ | refine WP.r fun k hk => ?_ | refine WP.sd _ rfl fun k hk => ?_ | refine WP.d _ rfl fun k hk => ?_
            | (refine WP.cc fun A B hA hB => ?_; simp [k0, k1, k5, k6, k7, abuiltin, alenOk, alen, hlt2i, q4, q5, q7, q8, ti36, ti22, elemOfT, St.get_put_same, asliceOk, aslice, abound, hid, aclear, AV.one, hD1, hes, onB_t, onB_f]; first | (refine hA ?_; clear hA hB A B) | (refine hB ?_; clear hA hB A B) | (refine onB_if (fun h => hA ?_) (fun h => hB ?_) <;> clear hA hB A B))
            | refine WP.q ?_ | refine WP.b ?_)
          unfold splice at hes
          rw [List.append_assoc, List.length_replicate] at hes
          rw [St.put_put, hcl, hes]
          refine finRow2 (.inr rfl) hid ?_ ?_ (below_esC _ _)
          · rfl
          · simp [hid]
      · rw [ddp, if_neg hc] at hca
        repeat' (first
          | refine WP.t ?_ | refine WP.k ?_ | refine WP.e ?_ | refine Qn ?_ | refine Qr ?_ | refine Qe ?_ | refine Bn ?_ | refine Br ?_ | refine Be ?_ | refine Bx (by decide) ?_
          | (refine RS.nl ?_; refine hk _ _ ?_; clear hk k)
          | (refine RS.st fun A B hA hB => ?_; simp [hxy, g0, g1, g5, abuiltin, alenOk, alen, hlti, w4, w4', w5, p1, p3, p5, hx, hy, ox, oy, hc, ti36, ti22, elemOfT, aindex, hs, rwx, rwy, hid, onW_t, onW_f, onV_s]; first | (refine hA _ _ _ ?_ ?_; (focus (first | (simp [hxy, g0, g1, g5, abuiltin, alenOk, alen, hlti, w4, w4', w5, p1, p3, p5, hx, hy, ox, oy, hc, ti36, ti22, elemOfT, aindex, hs, rwx, rwy, hid]; done) | (simp [hxy, g0, g1, g5, abuiltin, alenOk, alen, hlti, w4, w4', w5, p1, p3, p5, hx, hy, ox, oy, hc, ti36, ti22, elemOfT, aindex, hs, rwx, rwy, hid]; omega))); clear hA hB A B) | (refine hB ?_; clear hA hB A B))
          | (refine RQ.nl ?_; refine hk _ _ ?_; clear hk k)
          | (refine RW.nl ?_; refine hk _ _ ?_; clear hk k)
          | (refine RW.st fun A B hA hB => ?_; simp [hxy, g0, g1, g5, abuiltin, alenOk, alen, hlti, w4, w4', w5, p1, p3, p5, hx, hy, ox, oy, hc, ti36, ti22, elemOfT, aindex, hs, rwx, rwy, hid, onW_t, onW_f, onV_s]; first | (refine hA _ _ _ ?_ (by first | exact .inl (by decide) | exact .inr (.inl rfl) | exact .inr (.inr rfl)) (by first | exact .inl (by decide) | exact .inr (.inl (by decide)) | exact .inr (.inr fun s2 => by simp [hxy, g0, g1, g5, abuiltin, alenOk, alen, hlti, w4, w4', w5, p1, p3, p5, hx, hy, ox, oy, hc, ti36, ti22, elemOfT, aindex, hs, rwx, rwy, hid])) ?_; (focus (first | (simp [hxy, g0, g1, g5, abuiltin, alenOk, alen, hlti, w4, w4', w5, p1, p3, p5, hx, hy, ox, oy, hc, ti36, ti22, elemOfT, aindex, hs, rwx, rwy, hid]; done) | (simp [hxy, g0, g1, g5, abuiltin, alenOk, alen, hlti, w4, w4', w5, p1, p3, p5, hx, hy, ox, oy, hc, ti36, ti22, elemOfT, aindex, hs, rwx, rwy, hid]; omega))); clear hA hB A B) | (refine hB ?_; clear hA hB A B))
          | (refine RQ.st fun A B hA hB => ?_; simp [hxy, g0, g1, g5, abuiltin, alenOk, alen, hlti, w4, w4', w5, p1, p3, p5, hx, hy, ox, oy, hc, ti36, ti22, elemOfT, aindex, hs, rwx, rwy, hid, onW_t, onW_f, onV_s]; first | (refine hA _ _ _ ?_ (by first | exact .inl rfl | exact .inr (by decide)) ?_; (focus (first | (simp [hxy, g0, g1, g5, abuiltin, alenOk, alen, hlti, w4, w4', w5, p1, p3, p5, hx, hy, ox, oy, hc, ti36, ti22, elemOfT, aindex, hs, rwx, rwy, hid]; done) | (simp [hxy, g0, g1, g5, abuiltin, alenOk, alen, hlti, w4, w4', w5, p1, p3, p5, hx, hy, ox, oy, hc, ti36, ti22, elemOfT, aindex, hs, rwx, rwy, hid]; omega))); clear hA hB A B) | (refine hB ?_; clear hA hB A B))
          | refine WP.sr fun k hk => ?_ | refine WP.r fun k hk => ?_ | refine WP.sd _ rfl fun k hk => ?_ | refine WP.d _ rfl fun k hk => ?_
          | (refine WP.cc fun A B hA hB => ?_; simp [hxy, g0, g1, g5, abuiltin, alenOk, alen, hlti, w4, w4', w5, p1, p3, p5, hx, hy, ox, oy, hc, ti36, ti22, elemOfT, aindex, hs, rwx, rwy, hid, onB_t, onB_f]; first | (refine hA ?_; clear hA hB A B) | (refine hB ?_; clear hA hB A B) | (refine onB_if (fun h => hA ?_) (fun h => hB ?_) <;> clear hA hB A B))
          | refine WP.q ?_ | refine WP.b ?_)
        refine ⟨D.length - (c + 1 + 1), by omega, c + 1 + 1, rfl, by omega, by omega, rfl, ?_, by simp [g0], by simp [g1], by simp [w5]⟩
        have : c + 1 + 1 - 1 = c + 1 := by omega
        rw [this, e1, hca, htk]
        simp
    · have hlti : ¬ (a : Int) < (D.length : Int) := by omega
      obtain rfl : a = D.length := by omega
      have hcd : compT D = D := by rw [hca]; simp [ddp]
      have hes := esC_of hcd
      rw [hes, hcd, St.put_self hs]
      repeat' (first
        | refine WP.t ?_ | refine WP.k ?_ | refine WP.e ?_ | refine Qn ?_ | refine Qr ?_ | refine Qe ?_ | refine Bn ?_ | refine Br ?_ | refine Be ?_ | refine Bx (by decide) ?_
        | (refine RS.nl ?_; refine hk _ _ ?_; clear hk k)
        | (refine RS.st fun A B hA hB => ?_; simp [g0, g1, g5, abuiltin, alenOk, alen, hlti, ti36, hs, hid, onW_t, onW_f, onV_s]; first | (refine hA _ _ _ ?_ ?_; (focus (first | (simp [g0, g1, g5, abuiltin, alenOk, alen, hlti, ti36, hs, hid]; done) | (simp [g0, g1, g5, abuiltin, alenOk, alen, hlti, ti36, hs, hid]; omega))); clear hA hB A B) | (refine hB ?_; clear hA hB A B))
        | (refine RQ.nl ?_; refine hk _ _ ?_; clear hk k)
        | (refine RW.nl ?_; refine hk _ _ ?_; clear hk k)
        | (refine RW.st fun A B hA hB => ?_; simp [g0, g1, g5, abuiltin, alenOk, alen, hlti, ti36, hs, hid, onW_t, onW_f, onV_s]; first | (refine hA _ _ _ ?_ (by first | exact .inl (by decide) | exact .inr (.inl rfl) | exact .inr (.inr rfl)) (by first | exact .inl (by decide) | exact .inr (.inl (by decide)) | exact .inr (.inr fun s2 => by simp [g0, g1, g5, abuiltin, alenOk, alen, hlti, ti36, hs, hid])) ?_; (focus (first | (simp [g0, g1, g5, abuiltin, alenOk, alen, hlti, ti36, hs, hid]; done) | (simp [g0, g1, g5, abuiltin, alenOk, alen, hlti, ti36, hs, hid]; omega))); clear hA hB A B) | (refine hB ?_; clear hA hB A B))
        | (refine RQ.st fun A B hA hB => ?_; simp [g0, g1, g5, abuiltin, alenOk, alen, hlti, ti36, hs, hid, onW_t, onW_f, onV_s]; first | (refine hA _ _ _ ?_ (by first | exact .inl rfl | exact .inr (by decide)) ?_; (focus (first | (simp [g0, g1, g5, abuiltin, alenOk, alen, hlti, ti36, hs, hid]; done) | (simp [g0, g1, g5, abuiltin, alenOk, alen, hlti, ti36, hs, hid]; omega))); clear hA hB A B) | (refine hB ?_; clear hA hB A B))
        | refine WP.sr fun k hk => ?_ | refine WP.r fun k hk => ?_ | refine WP.sd _ rfl fun k hk => ?_ | refine WP.d _ rfl fun k hk => ?_
        | (refine WP.cc fun A B hA hB => ?_; simp [g0, g1, g5, abuiltin, alenOk, alen, hlti, ti36, hs, hid, onB_t, onB_f]; first | (refine hA ?_; clear hA hB A B) | (refine hB ?_; clear hA hB A B) | (refine onB_if (fun h => hA ?_) (fun h => hB ?_) <;> clear hA hB A B))
        | refine WP.q ?_ | refine WP.b ?_)
      have := finRow2 (s := s') (E := env K gw) (rs := Tryd.f36.results) (id := id) (es := encD D) (r := .ls id 0 D.length) (e := .ret) (.inr rfl) hid (T := [(4, .ls id 0 D.length)]) rfl (by simp [hid]) (belowO _ _)
      rw [St.put_self hs] at this
      exact this
theorem ft36 (hK : 0 < K) (hT : Tens gw) {id : Nat} (D : Rows0) (hid : id < s.nx) (hs : s.get id = some (rowO D)) (hl : D.length < 268435456) (hok : okD D) :
    FT (env K gw) (fun i => i ∈ [id]) 36 [.ls id 0 D.length, .fn (.func 37) [] []] s (.ls id 0 (compT D).length) (s.put id (rowO (compT D))) := by
  have h := FT.trunc (compT D).length (St.get_put_same _ _ _) (by simp) (ft36a hK hT D hid hs hl hok)
  rw [St.put_put] at h
  have : (esC D).take (compT D).length = encD (compT D) := by unfold esC; rw [List.take_append_of_le_length (by simp), List.take_of_length_le (by simp)]
  rw [this] at h
  exact h
/-- Of CompactFunc. -/
def gCmp (xs : List AV) (s : St) : Option (AV × St × List Nat) :=
  match xs with
  | [.ls id 0 n, .fn (.func 37) [] []] => if id < s.nx then (match s.get id with
    | some (.row 1 (true, 22) es) => match decD es with
      | some D => if (n = D.length ∧ D.length < 268435456) ∧ okB D = true then some (.ls id 0 (compT D).length, s.put id (rowO (compT D)), [id]) else none
      | none => none
    | _ => none) else none
  | _ => none
noncomputable def U5 : Fns := U4.add 36 gCmp
theorem U5_ok (hK : 0 < K) (hT : Tens gw) : FOk (env K gw) U5 := by
  refine (U4_ok hK hT).add fun xs s r s' l h => ?_
  unfold gCmp at h
  split at h
  · rename_i id n
    split at h
    · rename_i hid
      split at h
      · rename_i hs
        split at h
        · rename_i D hD
          split at h
          · rename_i hc
            cases h
            obtain ⟨⟨rfl, hl⟩, h6⟩ := hc
            rw [decD_eq hD] at hs
            exact ft36 hK hT D hid hs hl (okB_iff.1 h6)
          · cases h
        · cases h
      · cases h
    · cases h
  · cases h
/-- tuple.Sort -/
def srt (D : Rows0) : Rows0 := compT (stable D)
end
end Go.Am
namespace Go.Am
open Go.Proofs
theorem stB1_P (n : Nat) {P : Rows0 → Prop} (hP : ∀ a b D, P D → P (insertion a b D)) : ∀ (c a : Nat) {D : Rows0}, P D → P (stB1 n c a D)
  | 0, _, _, h => h
  | c + 1, a, D, h => by
    unfold stB1
    split
    · exact stB1_P n hP c _ (hP _ _ _ h)
    · exact hP _ _ _ h
theorem stB2_P (n : Nat) {P : Rows0 → Prop} (hP : ∀ a m b D, P D → P (symF n a m b D)) : ∀ (c z : Nat) {D : Rows0}, P D → P (stB2 n c z D)
  | 0, _, _, h => h
  | c + 1, z, D, h => by
    unfold stB2
    split
    · exact stB2_P n hP c _ (merB_inv n z hP _ _ h)
    · exact h
theorem stable_P {P : Rows0 → Prop} {D : Rows0} (h1 : ∀ a b D, P D → P (insertion a b D)) (h2 : ∀ n a m b D, P D → P (symF n a m b D)) (h : P D) : P (stable D) :=
  stB2_P _ (h2 _) _ _ (stB1_P _ h1 _ _ h)
@[simp] theorem stable_length (D : Rows0) : (stable D).length = D.length :=
  stable_P (P := fun X => X.length = D.length) (fun a b X h => by rw [insertion_length]; exact h) (fun n a m b X h => by rw [symF_length]; exact h) rfl
theorem stable_ok {D : Rows0} (h : okD D) : okD (stable D) :=
  stable_P (P := okD) (fun a b X h => insertion_ok a b h) (fun n a m b X h => symF_ok n a m b h) h
theorem ddp_mem : ∀ (p : List V) (l : Rows0) {x : List V}, x ∈ ddp p l → x ∈ l
  | _, [], _, h => h
  | p, y :: l, x, h => by
    unfold ddp at h
    split at h
    · exact List.mem_cons_of_mem _ (ddp_mem y l h)
    · rcases List.mem_cons.1 h with rfl | h
      · exact List.mem_cons_self
      · exact List.mem_cons_of_mem _ (ddp_mem y l h)
theorem compT_mem {l : Rows0} {x : List V} (h : x ∈ compT l) : x ∈ l := by
  cases l with
  | nil => exact h
  | cons y l =>
    rcases List.mem_cons.1 h with rfl | h
    · exact List.mem_cons_self
    · exact List.mem_cons_of_mem _ (ddp_mem y l h)
theorem frzRows {s1 : St} {n id : Nat} {C : Rows0} (hs : s1.get id = some (rowO C)) (hn : n ≤ id) : Frz s1 n (.ls id 0 C.length) (.sl (encD C)) := by
  have h := Frz.row (s1 := s1) (n := n) id 1 (true, 22) (encD C) (encD C) hs hn rfl (fun e he => by
    unfold encD at he
    obtain ⟨t, _, rfl⟩ := List.mem_map.1 he
    rfl) (fun i j y hy => ⟨y, hy⟩) (fun i j x y hx hy => by
    rw [hx] at hy
    cases hy
    have := belowO n C
    cases this with
    | row _ _ _ h => exact .same x (h i j x hx))
  rw [encD_length] at h
  exact h
section
variable {K : Nat} {gw : World} {s : St}
attribute [local simp] RS_cons' RS_nil RQ_nil RQ_cons' awanted xop zOf zrow aop ev T0 Slots.put Slots.set Slots.get awr WOk AV.may ofConst abinop aint isConst St.get_push St.get_put St.live AV.fit AV.cells AV.one fieldOf afieldAddr aload ofCells astore splice May eqres env_ti FinP ares aresL ares1 Fns.addP Fns.add
set_option maxRecDepth 20000 in
set_option maxHeartbeats 16000000 in
theorem ft18 (hK : 0 < K) (hT : Tens gw) (D : Rows0) (hl : D.length < 268435456) (hok : okD D) :
    FT (env K gw) NoW 18 [.sl (encD D)] s (.sl (encD (srt D))) s := by
  refine FT.data (fn := Tryd.f18) (U5_ok hK hT) mixed Tryd.func18 (by kernel_rfl) (by rfl) rfl rfl (by simp) (by kernel_rfl) fun μ w => ?_
  have h34 : ∀ xs s, U5 34 xs s = gCln xs s := fun xs s => by simp [U5, U4, U3, Fns.add, Fns.addP]
  have h35 : ∀ xs s, U5 35 xs s = gStb2 xs s := fun xs s => by simp [U5, U4, U3, U2, Fns.add, Fns.addP]
  have h36 : ∀ xs s, U5 36 xs s = gCmp xs s := fun xs s => by simp [U5, Fns.add, Fns.addP]
  have ob : okB D = true := okB_iff.2 hok
  have ob2 : okB (stable D) = true := okB_iff.2 (stable_ok hok)
  have hnx := stC_nx s D
  have hg := stC_get s D
  have hlt : s.nx + 1 < s.nx + 2 := by omega
  have hge : s.nx ≤ s.nx + 1 := by omega
  repeat' (first
    | refine WP.t ?_ | refine WP.k ?_ | refine WP.e ?_ | refine Qn ?_ | refine Qr ?_ | refine Qe ?_ | refine Bn ?_ | refine Br ?_ | refine Be ?_ | refine Bx (by decide) ?_
    | (refine RS.nl ?_; refine hk _ _ ?_; clear hk k)
    | (refine RS.st fun A B hA hB => ?_; simp [h34, h35, h36, gCln, gStb2, gCmp, hl, ob, ob2, hnx, hg, hlt, hge, St.get_put_same, St.nx_put, stable_length, onW_t, onW_f, onV_s]; first | (refine hA _ _ _ ?_ ?_; (focus (first | (simp [h34, h35, h36, gCln, gStb2, gCmp, hl, ob, ob2, hnx, hg, hlt, hge, St.get_put_same, St.nx_put, stable_length]; done) | (simp [h34, h35, h36, gCln, gStb2, gCmp, hl, ob, ob2, hnx, hg, hlt, hge, St.get_put_same, St.nx_put, stable_length]; omega))); clear hA hB A B) | (refine hB ?_; clear hA hB A B))
    | (refine RQ.nl ?_; refine hk _ _ ?_; clear hk k)
    | (refine RW.nl ?_; refine hk _ _ ?_; clear hk k)
    | (refine RW.st fun A B hA hB => ?_; simp [h34, h35, h36, gCln, gStb2, gCmp, hl, ob, ob2, hnx, hg, hlt, hge, St.get_put_same, St.nx_put, stable_length, onW_t, onW_f, onV_s]; first | (refine hA _ _ _ ?_ (by first | exact .inl (by decide) | exact .inr (.inl rfl) | exact .inr (.inr rfl)) (by first | exact .inl (by decide) | exact .inr (.inl (by decide)) | exact .inr (.inr fun s2 => by simp [h34, h35, h36, gCln, gStb2, gCmp, hl, ob, ob2, hnx, hg, hlt, hge, St.get_put_same, St.nx_put, stable_length])) ?_; (focus (first | (simp [h34, h35, h36, gCln, gStb2, gCmp, hl, ob, ob2, hnx, hg, hlt, hge, St.get_put_same, St.nx_put, stable_length]; done) | (simp [h34, h35, h36, gCln, gStb2, gCmp, hl, ob, ob2, hnx, hg, hlt, hge, St.get_put_same, St.nx_put, stable_length]; omega))); clear hA hB A B) | (refine hB ?_; clear hA hB A B))
    | (refine RQ.st fun A B hA hB => ?_; simp [h34, h35, h36, gCln, gStb2, gCmp, hl, ob, ob2, hnx, hg, hlt, hge, St.get_put_same, St.nx_put, stable_length, onW_t, onW_f, onV_s]; first | (refine hA _ _ _ ?_ (by first | exact .inl rfl | exact .inr (by decide)) ?_; (focus (first | (simp [h34, h35, h36, gCln, gStb2, gCmp, hl, ob, ob2, hnx, hg, hlt, hge, St.get_put_same, St.nx_put, stable_length]; done) | (simp [h34, h35, h36, gCln, gStb2, gCmp, hl, ob, ob2, hnx, hg, hlt, hge, St.get_put_same, St.nx_put, stable_length]; omega))); clear hA hB A B) | (refine hB ?_; clear hA hB A B))
    | refine WP.sr fun k hk => ?_ | refine WP.r fun k hk => ?_ | refine WP.sd _ rfl fun k hk => ?_ | refine WP.d _ rfl fun k hk => ?_
    | (refine WP.cc fun A B hA hB => ?_; simp [h34, h35, h36, gCln, gStb2, gCmp, hl, ob, ob2, hnx, hg, hlt, hge, St.get_put_same, St.nx_put, stable_length, onB_t, onB_f]; first | (refine hA ?_; clear hA hB A B) | (refine hB ?_; clear hA hB A B) | (refine onB_if (fun h => hA ?_) (fun h => hB ?_) <;> clear hA hB A B))
    | refine WP.q ?_ | refine WP.b ?_)
  exact ⟨.inr rfl, _, rfl, frzRows (St.get_put_same _ _ _) (by omega)⟩
def pSrt : List AV → Option AV
  | [.sl es] => match decD es with
    | some D => if D.length < 268435456 ∧ okB D = true then some (.sl (encD (srt D))) else none
    | none => none
  | _ => none
end
end Go.Am
