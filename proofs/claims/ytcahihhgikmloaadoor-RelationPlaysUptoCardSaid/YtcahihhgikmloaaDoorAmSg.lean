/- Part of the proof: abstract values over the given model of Go (S13, S14, S15, S16, S17). Conditions: none of its own; see the statement in the seat's Rows text. -/
import Derived.Test.YtcahihhgikmloaaDoorAmSf
set_option linter.unusedSimpArgs false
set_option linter.unusedVariables false
set_option linter.unusedSectionVars false
namespace Go.Am
open Go.Proofs
def pAllC : List AV → Option AV
  | [.agg [.sl a, .sl b, .int .i64 n]] => some (.bool true)
  | _ => none
def pDelC : List AV → Option AV
  | [.agg [.sl a, .sl b, .int .i64 n]] => some (.bool (n == 1))
  | _ => none
/-- The numbers at these places are those. -/
def mN (ns : List Nat) : List Nat → List Nat → Bool
  | c :: cols, w :: want => decide (ns[c]? = some w) && mN ns cols want
  | _, _ => true
def matP : List AV → St → AV → St → List Nat → Prop := fun xs s r s' l => ∀ a n ns p5 p12 p7 cols want only, xs = [.agg [.sl a, .sl (nums ns), .int .i64 n], .ptr p5 0, .ptr p12 0, .ptr p7 0] →
  s.get p5 = some (.var 44 [.sl (nums cols)]) → s.get p12 = some (.var 44 [.sl (nums want)]) → s.get p7 = some (.var 4 [.bool only]) →
  r = .bool (mN ns cols want && (n == 1 || n == 2 && !only)) ∧ s' = s ∧ l = []
theorem mN_take {ns cols want : List Nat} (hl : cols.length = want.length) : ∀ {i : Nat} (h : i < cols.length) (h2 : i < want.length), mN ns (cols.drop i) (want.drop i) = (decide (ns[cols[i]]? = some want[i]) && mN ns (cols.drop (i + 1)) (want.drop (i + 1))) := fun {i} h h2 => by
  rw [List.drop_eq_getElem_cons h, List.drop_eq_getElem_cons h2]
  rfl
section
variable {K : Nat} {gw : World} {s : St}
attribute [local simp] awanted xop zOf zrow aop ev T0 Slots.put Slots.set Slots.get awr WOk AV.may ofConst abinop aint isConst St.get_push St.get_put St.live AV.fit AV.cells AV.one fieldOf afieldAddr aload ofCells astore splice May eqres env_ti FinP FinZ FinW ares aresL ares1 Fns.addP Fns.add Fns.a0 Fns.a1 Fns.a2 Fns.a3 Fns.a4 abuiltin alenOk alen aindex elemOfT elemId abuildSlice afill chunks ard aappend isSS AV.isStr aminmax placesOf abuild afield aidx isStrD isStrDesc astrop aslice asliceOk abound arange anext aextract aunop aeq AV.ck avseq aveq aconv aconvert onB_t onB_f List.range_succ ti0 ti1 ti2 ti3 ti4 ti5 ti6 ti7 ti8 ti9 ti10 ti11 ti12 ti13 ti14 ti15 ti16 ti17 ti18 ti19 ti20 ti21 ti22 ti23 ti24 ti25 ti26 ti27 ti28 ti29 ti30 ti31 ti32 ti33 ti34 ti35 ti36 ti37 ti38 ti39 ti40 ti41 ti42 ti43 ti44 ti45 ti46 ti47 ti48 ti49 ti50 ti51 ti52 ti53 ti54 ti55 ti56 ti57 ti58 ti59 ti60 ti61 ti62 ti63 ti64 ti65 ti66 ti67 ti68 ti69 ti70 ti71 ti72 ti73 ti74 ti75 ti76 ti77 ti78 ti79 ti80 ti81 ti82 ti83 ti84 ti85 ti86 ti87 ti88 ti89 ti90 ti91 ti92 ti93 ti94 ti95 ti96 ti97 ti98 ti99 ti100 ti101 ti102 ti103 ti104 ti105 ti106 ti107 ti108 ti109 ti110 ti111 ti112 ti113 ti114 ti115 ti116 ti117 ti118 ti119 ti120 ti121 ti122 ti123 ti124 ti125 ti126 ti127 ti128 ti129 ti130 ti131 ti132 ti133 ti134 ti135 ti136 ti137 ti138 ti139 ti140 ti141 ti142 ti143 ti144 ti145 ti146 ti147
theorem ft_AllC (a b : List (List AV)) (n : Int) : FT (env K gw) NoW 35 [.agg [.sl a, .sl b, .int .i64 n]] s (.bool true) s := by
  refine FT.pure (fn := Tryd.f35) F0_ok mixed Tryd.func35 (by kernel_rfl) (by rfl) rfl rfl (by simp) rfl fun μ w => ?_
  repeat' (first
    | refine WP.t ?_ | refine WP.k ?_ | refine WP.e ?_ | refine Qn ?_ | refine Qr ?_ | refine Qe ?_ | refine Bn ?_ | refine Br ?_ | refine Be ?_ | refine Bx (by decide) ?_
    | (refine RS.nl ?_; refine hk _ _ ?_; clear hk k)
    | ((first | refine RS.st fun A B hA hB => ?_ | refine RQ.st fun A B hA hB => ?_); simp [onW_t, onW_t, onW_f, onV_s]; first | ((first | refine hA _ _ _ ?_ ?_ | refine hA _ _ _ ?_ (by first | exact .inl rfl | exact .inr (by decide)) ?_); (focus (simp [onW_t] <;> omega)); clear hA hB A B) | (refine hB ?_; clear hA hB A B) | (refine onV_if ?_ ?_; (focus (first | omega | (refine ⟨?_, ?_⟩ <;> omega))); simp only [onV_s]; (first | refine hA _ _ _ ?_ ?_ | refine hA _ _ _ ?_ (by first | exact .inl rfl | exact .inr (by decide)) ?_); (focus (simp [onW_t] <;> omega)); clear hA hB A B))
    | (refine RQ.nl ?_; refine hk _ _ ?_; clear hk k)
    | refine WP.sr fun k hk => ?_ | refine WP.r fun k hk => ?_
    | refine WP.sd _ rfl fun k hk => ?_ | refine WP.d _ rfl fun k hk => ?_
    | (refine WP.cc fun A B hA hB => ?_; simp [onW_t, onB_t, onB_f]; first | (refine hA ?_; clear hA hB A B) | (refine hB ?_; clear hA hB A B) | (refine onB_if (fun h => hA ?_) (fun h => hB ?_) <;> clear hA hB A B))
    | refine WP.q ?_ | refine WP.b ?_)
  simp
theorem ft_DelC (a b : List (List AV)) (n : Int) : FT (env K gw) NoW 42 [.agg [.sl a, .sl b, .int .i64 n]] s (.bool (n == 1)) s := by
  refine FT.pure (fn := Tryd.f42) F0_ok mixed Tryd.func42 (by kernel_rfl) (by rfl) rfl rfl (by simp) rfl fun μ w => ?_
  repeat' (first
    | refine WP.t ?_ | refine WP.k ?_ | refine WP.e ?_ | refine Qn ?_ | refine Qr ?_ | refine Qe ?_ | refine Bn ?_ | refine Br ?_ | refine Be ?_ | refine Bx (by decide) ?_
    | (refine RS.nl ?_; refine hk _ _ ?_; clear hk k)
    | ((first | refine RS.st fun A B hA hB => ?_ | refine RQ.st fun A B hA hB => ?_); simp [onW_t, onW_t, onW_f, onV_s]; first | ((first | refine hA _ _ _ ?_ ?_ | refine hA _ _ _ ?_ (by first | exact .inl rfl | exact .inr (by decide)) ?_); (focus (simp [onW_t] <;> omega)); clear hA hB A B) | (refine hB ?_; clear hA hB A B) | (refine onV_if ?_ ?_; (focus (first | omega | (refine ⟨?_, ?_⟩ <;> omega))); simp only [onV_s]; (first | refine hA _ _ _ ?_ ?_ | refine hA _ _ _ ?_ (by first | exact .inl rfl | exact .inr (by decide)) ?_); (focus (simp [onW_t] <;> omega)); clear hA hB A B))
    | (refine RQ.nl ?_; refine hk _ _ ?_; clear hk k)
    | refine WP.sr fun k hk => ?_ | refine WP.r fun k hk => ?_
    | refine WP.sd _ rfl fun k hk => ?_ | refine WP.d _ rfl fun k hk => ?_
    | (refine WP.cc fun A B hA hB => ?_; simp [onW_t, onB_t, onB_f]; first | (refine hA ?_; clear hA hB A B) | (refine hB ?_; clear hA hB A B) | (refine onB_if (fun h => hA ?_) (fun h => hB ?_) <;> clear hA hB A B))
    | refine WP.q ?_ | refine WP.b ?_)
  simp
theorem ft_MatC (a : List (List AV)) (n : Int) (ns : List Nat) (p5 p12 p7 : Nat) (cols want : List Nat) (only : Bool) (h5 : p5 < s.nx) (h12 : p12 < s.nx) (h7 : p7 < s.nx)
    (g5 : s.get p5 = some (.var 44 [.sl (nums cols)])) (g12 : s.get p12 = some (.var 44 [.sl (nums want)])) (g7 : s.get p7 = some (.var 4 [.bool only]))
    (hl : cols.length = want.length) (hc : ∀ c ∈ cols, c < ns.length) (hcl : cols.length < 1073741824) :
    FT (env K gw) NoW 39 [.agg [.sl a, .sl (nums ns), .int .i64 n], .ptr p5 0, .ptr p12 0, .ptr p7 0] s (.bool (mN ns cols want && (n == 1 || n == 2 && !only))) s := by
  refine FT.pure (fn := Tryd.f39) F0_ok mixed Tryd.func39 (by kernel_rfl) (by rfl) rfl rfl (by simp) rfl fun μ w => ?_
  have e5 : ¬ p5 = s.nx := by omega
  have e12 : ¬ p12 = s.nx := by omega
  have e7 : ¬ p7 = s.nx := by omega
  have hnl : (nums cols).length = cols.length := by simp [nums]
  repeat' (first
    | refine WP.t ?_ | refine WP.k ?_ | refine WP.e ?_ | refine Qn ?_ | refine Qr ?_ | refine Qe ?_ | refine Bn ?_ | refine Br ?_ | refine Be ?_ | refine Bx (by decide) ?_
    | (refine RS.nl ?_; refine hk _ _ ?_; clear hk k)
    | ((first | refine RS.st fun A B hA hB => ?_ | refine RQ.st fun A B hA hB => ?_); simp [g5, h5, e5, hnl, onW_t, onW_f, onV_s]; first | ((first | refine hA _ _ _ ?_ ?_ | refine hA _ _ _ ?_ (by first | exact .inl rfl | exact .inr (by decide)) ?_); (focus (simp [g5, h5, e5, hnl] <;> omega)); clear hA hB A B) | (refine hB ?_; clear hA hB A B) | (refine onV_if ?_ ?_; (focus (first | omega | (refine ⟨?_, ?_⟩ <;> omega))); simp only [onV_s]; (first | refine hA _ _ _ ?_ ?_ | refine hA _ _ _ ?_ (by first | exact .inl rfl | exact .inr (by decide)) ?_); (focus (simp [g5, h5, e5, hnl] <;> omega)); clear hA hB A B))
    | (refine RQ.nl ?_; refine hk _ _ ?_; clear hk k)
    | refine WP.sr fun k hk => ?_ | refine WP.r fun k hk => ?_
    | refine WP.sd _ rfl fun k hk => ?_ | refine WP.d _ rfl fun k hk => ?_
    | (refine WP.cc fun A B hA hB => ?_; simp [g5, h5, e5, hnl, onB_t, onB_f]; first | (refine hA ?_; clear hA hB A B) | (refine hB ?_; clear hA hB A B) | (refine onB_if (fun h => hA ?_) (fun h => hB ?_) <;> clear hA hB A B))
    | refine WP.q ?_ | refine WP.b ?_)
  have hmN0 : mN ns (cols.drop 0) (want.drop 0) = mN ns cols want := rfl
  refine WP_loop (fun m T s' => ∃ i : Nat, m + i = cols.length ∧ T.get 2 = .ptr p12 0 ∧ T.get 3 = .ptr p7 0 ∧ T.get 4 = .ptr s.nx 0 ∧ T.get 8 = .sl (nums cols) ∧ T.get 9 = .int .i64 cols.length ∧ T.get 10 = .int .i64 i ∧
    s' = s.push (.var 75 [.sl a, .sl (nums ns), .int .i64 n]) ∧ mN ns (cols.drop i) (want.drop i) = mN ns cols want) cols.length ⟨0, by simp, by simp, by simp, by simp, by simp, by simp, by simp, rfl, rfl⟩ ?_
  rintro m T s' ⟨i, hmi, k2, k3, k4, k8, k9, k10, rfl, hm⟩
  by_cases hi : i < cols.length
  · have hw : IntKind.i64.wrap ((i : Int) + 1) = (i : Int) + 1 := wrap64 (by omega) (by omega)
    have hlt : ((i : Int) < (cols.length : Int)) := by omega
    have hi2 : i < want.length := by omega
    have hci := hc cols[i] (List.getElem_mem hi)
    have hmt := mN_take (ns := ns) hl hi hi2
    have ha3 : ∀ h : i < (nums cols).length, (nums cols)[i]'h = [.int .i64 ((cols[i] : Nat) : Int)] := fun h => by simp [nums]
    have hb3 : ∀ h : i < (nums want).length, (nums want)[i]'h = [.int .i64 ((want[i] : Nat) : Int)] := fun h => by simp [nums]
    have hc3 : ∀ h : cols[i] < (nums ns).length, (nums ns)[cols[i]]'h = [.int .i64 ((ns[cols[i]] : Nat) : Int)] := fun h => by simp [nums]
    have hnl2 : (nums want).length = want.length := by simp [nums]
    have hnl3 : (nums ns).length = ns.length := by simp [nums]
    have hnc : ns[cols[i]]? = some ns[cols[i]] := List.getElem?_eq_getElem hci
    generalize hcv : cols[i] = c at *
    generalize hwv : want[i] = w at *
    generalize hnv : ns[c] = x at *
    have hc0 : (c : Int) < (ns.length : Int) := by omega
    by_cases hx : x = w
    · have hne : (((x : Nat) : Int) != ((w : Nat) : Int)) = false := by simp [hx]
      rw [hm, hnc] at hmt
      simp only [hx, decide_true, Bool.true_and] at hmt
      repeat' (first
        | refine WP.t ?_ | refine WP.k ?_ | refine WP.e ?_ | refine Qn ?_ | refine Qr ?_ | refine Qe ?_ | refine Bn ?_ | refine Br ?_ | refine Be ?_ | refine Bx (by decide) ?_
        | (refine RS.nl ?_; refine hk _ _ ?_; clear hk k)
        | ((first | refine RS.st fun A B hA hB => ?_ | refine RQ.st fun A B hA hB => ?_); simp [k2, k3, k4, k8, k9, k10, hlt, hi, hi2, hw, ha3, hb3, hc3, hnl, hnl2, hnl3, hci, hc0, g12, h12, e12, hne, onW_t, onW_f, onV_s]; first | ((first | refine hA _ _ _ ?_ ?_ | refine hA _ _ _ ?_ (by first | exact .inl rfl | exact .inr (by decide)) ?_); (focus (simp [k2, k3, k4, k8, k9, k10, hlt, hi, hi2, hw, ha3, hb3, hc3, hnl, hnl2, hnl3, hci, hc0, g12, h12, e12, hne] <;> omega)); clear hA hB A B) | (refine hB ?_; clear hA hB A B) | (refine onV_if ?_ ?_; (focus (first | omega | (refine ⟨?_, ?_⟩ <;> omega))); simp only [onV_s]; (first | refine hA _ _ _ ?_ ?_ | refine hA _ _ _ ?_ (by first | exact .inl rfl | exact .inr (by decide)) ?_); (focus (simp [k2, k3, k4, k8, k9, k10, hlt, hi, hi2, hw, ha3, hb3, hc3, hnl, hnl2, hnl3, hci, hc0, g12, h12, e12, hne] <;> omega)); clear hA hB A B))
        | (refine RQ.nl ?_; refine hk _ _ ?_; clear hk k)
        | refine WP.sr fun k hk => ?_ | refine WP.r fun k hk => ?_
        | refine WP.sd _ rfl fun k hk => ?_ | refine WP.d _ rfl fun k hk => ?_
        | (refine WP.cc fun A B hA hB => ?_; simp [k2, k3, k4, k8, k9, k10, hlt, hi, hi2, hw, ha3, hb3, hc3, hnl, hnl2, hnl3, hci, hc0, g12, h12, e12, hne, onB_t, onB_f]; first | (refine hA ?_; clear hA hB A B) | (refine hB ?_; clear hA hB A B) | (refine onB_if (fun h => hA ?_) (fun h => hB ?_) <;> clear hA hB A B))
        | refine WP.q ?_ | refine WP.b ?_)
      exact ⟨m - 1, by omega, i + 1, by omega, by simp [k2], by simp [k3], by simp [k4], by simp [k8], by simp [k9], by simp, by simp, hmt.symm⟩
    · have hx2 : ¬ ((x : Nat) : Int) = ((w : Nat) : Int) := by omega
      have hne : (((x : Nat) : Int) != ((w : Nat) : Int)) = true := bne_iff_ne.2 hx2
      have hxs : decide (some x = some w) = false := decide_eq_false (by simpa using hx)
      rw [hm, hnc, hxs, Bool.false_and] at hmt
      rw [hmt]
      repeat' (first
        | refine WP.t ?_ | refine WP.k ?_ | refine WP.e ?_ | refine Qn ?_ | refine Qr ?_ | refine Qe ?_ | refine Bn ?_ | refine Br ?_ | refine Be ?_ | refine Bx (by decide) ?_
        | (refine RS.nl ?_; refine hk _ _ ?_; clear hk k)
        | ((first | refine RS.st fun A B hA hB => ?_ | refine RQ.st fun A B hA hB => ?_); simp [k2, k3, k4, k8, k9, k10, hlt, hi, hi2, hw, ha3, hb3, hc3, hnl, hnl2, hnl3, hci, hc0, g12, h12, e12, hne, onW_t, onW_f, onV_s]; first | ((first | refine hA _ _ _ ?_ ?_ | refine hA _ _ _ ?_ (by first | exact .inl rfl | exact .inr (by decide)) ?_); (focus (simp [k2, k3, k4, k8, k9, k10, hlt, hi, hi2, hw, ha3, hb3, hc3, hnl, hnl2, hnl3, hci, hc0, g12, h12, e12, hne] <;> omega)); clear hA hB A B) | (refine hB ?_; clear hA hB A B) | (refine onV_if ?_ ?_; (focus (first | omega | (refine ⟨?_, ?_⟩ <;> omega))); simp only [onV_s]; (first | refine hA _ _ _ ?_ ?_ | refine hA _ _ _ ?_ (by first | exact .inl rfl | exact .inr (by decide)) ?_); (focus (simp [k2, k3, k4, k8, k9, k10, hlt, hi, hi2, hw, ha3, hb3, hc3, hnl, hnl2, hnl3, hci, hc0, g12, h12, e12, hne] <;> omega)); clear hA hB A B))
        | (refine RQ.nl ?_; refine hk _ _ ?_; clear hk k)
        | refine WP.sr fun k hk => ?_ | refine WP.r fun k hk => ?_
        | refine WP.sd _ rfl fun k hk => ?_ | refine WP.d _ rfl fun k hk => ?_
        | (refine WP.cc fun A B hA hB => ?_; simp [k2, k3, k4, k8, k9, k10, hlt, hi, hi2, hw, ha3, hb3, hc3, hnl, hnl2, hnl3, hci, hc0, g12, h12, e12, hne, onB_t, onB_f]; first | (refine hA ?_; clear hA hB A B) | (refine hB ?_; clear hA hB A B) | (refine onB_if (fun h => hA ?_) (fun h => hB ?_) <;> clear hA hB A B))
        | refine WP.q ?_ | refine WP.b ?_)
      simp
  · have hlt : ¬ ((i : Int) < (cols.length : Int)) := by omega
    have he : i = cols.length := by omega
    have hmt : mN ns cols want = true := by
      rw [← hm, List.drop_eq_nil_of_le (by omega)]
      rfl
    rw [hmt]
    cases h1 : (n == 1) with
    | true =>
      repeat' (first
        | refine WP.t ?_ | refine WP.k ?_ | refine WP.e ?_ | refine Qn ?_ | refine Qr ?_ | refine Qe ?_ | refine Bn ?_ | refine Br ?_ | refine Be ?_ | refine Bx (by decide) ?_
        | (refine RS.nl ?_; refine hk _ _ ?_; clear hk k)
        | ((first | refine RS.st fun A B hA hB => ?_ | refine RQ.st fun A B hA hB => ?_); simp [k2, k3, k4, k8, k9, k10, hlt, h1, onW_t, onW_f, onV_s]; first | ((first | refine hA _ _ _ ?_ ?_ | refine hA _ _ _ ?_ (by first | exact .inl rfl | exact .inr (by decide)) ?_); (focus (simp [k2, k3, k4, k8, k9, k10, hlt, h1] <;> omega)); clear hA hB A B) | (refine hB ?_; clear hA hB A B) | (refine onV_if ?_ ?_; (focus (first | omega | (refine ⟨?_, ?_⟩ <;> omega))); simp only [onV_s]; (first | refine hA _ _ _ ?_ ?_ | refine hA _ _ _ ?_ (by first | exact .inl rfl | exact .inr (by decide)) ?_); (focus (simp [k2, k3, k4, k8, k9, k10, hlt, h1] <;> omega)); clear hA hB A B))
        | (refine RQ.nl ?_; refine hk _ _ ?_; clear hk k)
        | refine WP.sr fun k hk => ?_ | refine WP.r fun k hk => ?_
        | refine WP.sd _ rfl fun k hk => ?_ | refine WP.d _ rfl fun k hk => ?_
        | (refine WP.cc fun A B hA hB => ?_; simp [k2, k3, k4, k8, k9, k10, hlt, h1, onB_t, onB_f]; first | (refine hA ?_; clear hA hB A B) | (refine hB ?_; clear hA hB A B) | (refine onB_if (fun h => hA ?_) (fun h => hB ?_) <;> clear hA hB A B))
        | refine WP.q ?_ | refine WP.b ?_)
      simp
    | false =>
      cases h2 : (n == 2) with
      | false =>
        repeat' (first
          | refine WP.t ?_ | refine WP.k ?_ | refine WP.e ?_ | refine Qn ?_ | refine Qr ?_ | refine Qe ?_ | refine Bn ?_ | refine Br ?_ | refine Be ?_ | refine Bx (by decide) ?_
          | (refine RS.nl ?_; refine hk _ _ ?_; clear hk k)
          | ((first | refine RS.st fun A B hA hB => ?_ | refine RQ.st fun A B hA hB => ?_); simp [k2, k3, k4, k8, k9, k10, hlt, h1, h2, onW_t, onW_f, onV_s]; first | ((first | refine hA _ _ _ ?_ ?_ | refine hA _ _ _ ?_ (by first | exact .inl rfl | exact .inr (by decide)) ?_); (focus (simp [k2, k3, k4, k8, k9, k10, hlt, h1, h2] <;> omega)); clear hA hB A B) | (refine hB ?_; clear hA hB A B) | (refine onV_if ?_ ?_; (focus (first | omega | (refine ⟨?_, ?_⟩ <;> omega))); simp only [onV_s]; (first | refine hA _ _ _ ?_ ?_ | refine hA _ _ _ ?_ (by first | exact .inl rfl | exact .inr (by decide)) ?_); (focus (simp [k2, k3, k4, k8, k9, k10, hlt, h1, h2] <;> omega)); clear hA hB A B))
          | (refine RQ.nl ?_; refine hk _ _ ?_; clear hk k)
          | refine WP.sr fun k hk => ?_ | refine WP.r fun k hk => ?_
          | refine WP.sd _ rfl fun k hk => ?_ | refine WP.d _ rfl fun k hk => ?_
          | (refine WP.cc fun A B hA hB => ?_; simp [k2, k3, k4, k8, k9, k10, hlt, h1, h2, onB_t, onB_f]; first | (refine hA ?_; clear hA hB A B) | (refine hB ?_; clear hA hB A B) | (refine onB_if (fun h => hA ?_) (fun h => hB ?_) <;> clear hA hB A B))
          | refine WP.q ?_ | refine WP.b ?_)
        simp
      | true =>
        repeat' (first
          | refine WP.t ?_ | refine WP.k ?_ | refine WP.e ?_ | refine Qn ?_ | refine Qr ?_ | refine Qe ?_ | refine Bn ?_ | refine Br ?_ | refine Be ?_ | refine Bx (by decide) ?_
          | (refine RS.nl ?_; refine hk _ _ ?_; clear hk k)
          | ((first | refine RS.st fun A B hA hB => ?_ | refine RQ.st fun A B hA hB => ?_); simp [k2, k3, k4, k8, k9, k10, hlt, h1, h2, g7, h7, e7, onW_t, onW_f, onV_s]; first | ((first | refine hA _ _ _ ?_ ?_ | refine hA _ _ _ ?_ (by first | exact .inl rfl | exact .inr (by decide)) ?_); (focus (simp [k2, k3, k4, k8, k9, k10, hlt, h1, h2, g7, h7, e7] <;> omega)); clear hA hB A B) | (refine hB ?_; clear hA hB A B) | (refine onV_if ?_ ?_; (focus (first | omega | (refine ⟨?_, ?_⟩ <;> omega))); simp only [onV_s]; (first | refine hA _ _ _ ?_ ?_ | refine hA _ _ _ ?_ (by first | exact .inl rfl | exact .inr (by decide)) ?_); (focus (simp [k2, k3, k4, k8, k9, k10, hlt, h1, h2, g7, h7, e7] <;> omega)); clear hA hB A B))
          | (refine RQ.nl ?_; refine hk _ _ ?_; clear hk k)
          | refine WP.sr fun k hk => ?_ | refine WP.r fun k hk => ?_
          | refine WP.sd _ rfl fun k hk => ?_ | refine WP.d _ rfl fun k hk => ?_
          | (refine WP.cc fun A B hA hB => ?_; simp [k2, k3, k4, k8, k9, k10, hlt, h1, h2, g7, h7, e7, onB_t, onB_f]; first | (refine hA ?_; clear hA hB A B) | (refine hB ?_; clear hA hB A B) | (refine onB_if (fun h => hA ?_) (fun h => hB ?_) <;> clear hA hB A B))
          | refine WP.q ?_ | refine WP.b ?_)
        simp
end
end Go.Am
namespace Go.Am
open Go.Proofs
/-- These places have these values; and the age is one that may be. -/
def mV (r : List V) : List Nat → List V → Bool
  | c :: cols, v :: vals => decide (r[c]? = some (bareV v)) && mV r cols vals
  | _, _ => true
def ageOk (only : Bool) (n : Nat) : Bool := n == 1 || n == 2 && !only
def matQ (cols : List Nat) (vals : List V) (only : Bool) (r : List V × Nat) : Bool := mV r.1 cols vals && ageOk only r.2
theorem mN_mV {tab : List V} {r : List V} (hr : allIn tab r = true) (hb : r.map bareV = r) : ∀ (cols : List Nat) (vals : List V), allIn tab vals = true → mN (idxs tab r) cols (idxs tab vals) = mV r cols vals
  | [], [], _ => rfl
  | [], v :: vals, _ => rfl
  | c :: cols, [], _ => rfl
  | c :: cols, v :: vals, h => by
    simp only [allIn, List.all_cons, Bool.and_eq_true] at h
    have e : idxs tab (v :: vals) = idx tab (bareV v) :: idxs tab vals := rfl
    rw [e, mN, mV, mN_mV hr hb cols vals h.2]
    congr 1
    have hg : (idxs tab r)[c]? = (r[c]?).map fun u => idx tab (bareV u) := by simp [idxs]
    rw [hg]
    cases hrc : r[c]? with
    | none => simp
    | some u =>
      have hu : u ∈ r := List.mem_of_getElem? hrc
      have h1 := List.all_eq_true.1 hr u hu
      have hub : bareV u = u := by
        have := congrArg (·[c]?) hb
        simp only [List.getElem?_map, hrc, Option.map_some, Option.some.injEq] at this
        exact this
      rw [Option.map_some]
      by_cases e : u = bareV v
      · rw [hub, e]; simp
      · have : ¬ idx tab (bareV u) = idx tab (bareV v) := fun h2 => e (by rw [← hub]; exact idx_inj h1 h.1 h2)
        simp [e, this]
theorem mV_no {tab r : List V} (hr : allIn tab r = true) (hb : r.map bareV = r) : ∀ (cols : List Nat) (vals : List V), cols.length = vals.length → allIn tab vals = false → mV r cols vals = false
  | [], [], _, h => by simp [allIn] at h
  | [], v :: vals, h, _ => by simp at h
  | c :: cols, [], h, _ => by simp at h
  | c :: cols, v :: vals, hl, h => by
    rw [mV]
    simp only [allIn, List.all_cons] at h
    cases hv : (findF (bareV v) tab).isSome with
    | true =>
      rw [hv, Bool.true_and] at h
      rw [mV_no hr hb cols vals (by simpa using hl) h, Bool.and_false]
    | false =>
      have : decide (r[c]? = some (bareV v)) = false := decide_eq_false fun e => by
        have h1 := List.all_eq_true.1 hr _ (List.mem_of_getElem? e)
        rw [bareV_bare, hv] at h1
        cases h1
      rw [this, Bool.false_and]
def someP (F : Fns) : List AV → St → AV → St → List Nat → Prop := fun xs s r s' l => ∀ rid f a b, xs = [.ptr rid 0, .fn (.func f) a b] → ∀ l0 lt tid atid ar tab R rw, RelD s l0 lt rid tid atid ar tab R rw →
  ∀ p, (∀ r ∈ R, F f (a ++ (.agg (rowC tab r) :: b)) s = some (.bool (p r), s, [])) → r = .sl (encD (srt (Sel p R))) ∧ s' = s ∧ l = []
section
variable {K : Nat} {gw : World} {s : St}
attribute [local simp] awanted xop zOf zrow aop ev T0 Slots.put Slots.set Slots.get awr WOk AV.may ofConst abinop aint isConst St.get_push St.get_put St.live AV.fit AV.cells AV.one fieldOf afieldAddr aload ofCells astore splice May eqres env_ti FinP FinZ FinW ares aresL ares1 Fns.addP Fns.add Fns.a0 Fns.a1 Fns.a2 Fns.a3 Fns.a4 abuiltin alenOk alen aindex elemOfT elemId abuildSlice afill chunks ard aappend isSS AV.isStr aminmax placesOf abuild afield aidx isStrD isStrDesc astrop aslice asliceOk abound arange anext aextract aunop aeq AV.ck avseq aveq aconv aconvert onB_t onB_f List.range_succ ti0 ti1 ti2 ti3 ti4 ti5 ti6 ti7 ti8 ti9 ti10 ti11 ti12 ti13 ti14 ti15 ti16 ti17 ti18 ti19 ti20 ti21 ti22 ti23 ti24 ti25 ti26 ti27 ti28 ti29 ti30 ti31 ti32 ti33 ti34 ti35 ti36 ti37 ti38 ti39 ti40 ti41 ti42 ti43 ti44 ti45 ti46 ti47 ti48 ti49 ti50 ti51 ti52 ti53 ti54 ti55 ti56 ti57 ti58 ti59 ti60 ti61 ti62 ti63 ti64 ti65 ti66 ti67 ti68 ti69 ti70 ti71 ti72 ti73 ti74 ti75 ti76 ti77 ti78 ti79 ti80 ti81 ti82 ti83 ti84 ti85 ti86 ti87 ti88 ti89 ti90 ti91 ti92 ti93 ti94 ti95 ti96 ti97 ti98 ti99 ti100 ti101 ti102 ti103 ti104 ti105 ti106 ti107 ti108 ti109 ti110 ti111 ti112 ti113 ti114 ti115 ti116 ti117 ti118 ti119 ti120 ti121 ti122 ti123 ti124 ti125 ti126 ti127 ti128 ti129 ti130 ti131 ti132 ti133 ti134 ti135 ti136 ti137 ti138 ti139 ti140 ti141 ti142 ti143 ti144 ti145 ti146 ti147
noncomputable def X6 (K : Nat) (gw : World) : Fns := (((X5 K gw).addP 35 pAllC).addP 42 pDelC).ch (env K gw) 39 matP
theorem X6_ok (hK : 0 < K) (hT : Tens gw) : FOk (env K gw) (X6 K gw) := by
  refine ((((X5_ok hK hT).addP ?_).addP ?_)).ch
  · intro xs s r h
    unfold pAllC at h
    split at h
    · cases h; exact ft_AllC _ _ _
    · cases h
  · intro xs s r h
    unfold pDelC at h
    split at h
    · cases h; exact ft_DelC _ _ _
    · cases h
theorem X6_mat (hK : 0 < K) (hT : Tens gw) (a : List (List AV)) (n : Int) (ns : List Nat) (p5 p12 p7 : Nat) (cols want : List Nat) (only : Bool) (h5 : p5 < s.nx) (h12 : p12 < s.nx) (h7 : p7 < s.nx)
    (g5 : s.get p5 = some (.var 44 [.sl (nums cols)])) (g12 : s.get p12 = some (.var 44 [.sl (nums want)])) (g7 : s.get p7 = some (.var 4 [.bool only]))
    (hl : cols.length = want.length) (hc : ∀ c ∈ cols, c < ns.length) (hcl : cols.length < 1073741824) :
    X6 K gw 39 [.agg [.sl a, .sl (nums ns), .int .i64 n], .ptr p5 0, .ptr p12 0, .ptr p7 0] s = some (.bool (mN ns cols want && (n == 1 || n == 2 && !only)), s, []) := by
  have hp : matP [.agg [.sl a, .sl (nums ns), .int .i64 n], .ptr p5 0, .ptr p12 0, .ptr p7 0] s (.bool (mN ns cols want && (n == 1 || n == 2 && !only))) s [] := by
    intro a' n' ns' q5 q12 q7 cols' want' only' he g5' g12' g7'
    simp only [List.cons.injEq, AV.ptr.injEq, AV.agg.injEq, AV.sl.injEq, AV.int.injEq, and_true, true_and] at he
    obtain ⟨⟨rfl, hns, rfl⟩, rfl, rfl, rfl⟩ := he
    obtain rfl := nums_inj hns
    rw [g5] at g5'
    rw [g12] at g12'
    rw [g7] at g7'
    simp only [Option.some.injEq, AObj.var.injEq, List.cons.injEq, AV.sl.injEq, AV.bool.injEq, and_true, true_and] at g5' g12' g7'
    obtain rfl := nums_inj g5'
    obtain rfl := nums_inj g12'
    subst g7'
    exact ⟨rfl, rfl, rfl⟩
  obtain ⟨r, s', l', h6, h8⟩ := Fns.ch_some (P := matP) (F := ((X5 K gw).addP 35 pAllC).addP 42 pDelC) (l := []) ((ft_MatC (K := K) (gw := gw) a n ns p5 p12 p7 cols want only h5 h12 h7 g5 g12 g7 hl hc hcl).wider (W' := fun i => i ∈ ([] : List Nat)) fun i h => h.elim) hp
  obtain ⟨rfl, rfl, rfl⟩ := h8 a n ns p5 p12 p7 cols want only rfl g5 g12 g7
  exact h6
theorem X6_of (t : List V) (s2 : St) (hl : t.length < 1073741824) : X6 K gw 33 [.sl (t.map V.cs)] s2 = some (.sl ((t.map bareV).map V.cs), s2, []) := by
  unfold X6
  rw [Fns.ch_other (by decide), Fns.addP, if_neg (by decide), Fns.addP, if_neg (by decide)]
  exact X5_of t hl
theorem X6_srt (D : Rows0) (s2 : St) (hl : D.length < 268435456) (ht : ∀ t ∈ D, t.length < 1000) : X6 K gw 50 [.sl (encD D)] s2 = some (.sl (encD (srt D)), s2, []) := by
  unfold X6
  rw [Fns.ch_other (by decide), Fns.addP, if_neg (by decide), Fns.addP, if_neg (by decide), X5_base (by decide)]
  have hok : okB D = true := okB_iff.2 fun t h => by have := ht t h; simp only [LIM]; omega
  simp only [V2, V1, Fns.addP]
  simp [pSrt, hl, hok]
noncomputable def X7 (K : Nat) (gw : World) : Fns := (X6 K gw).ch (env K gw) 34 (someP (X6 K gw))
theorem X7_ok (hK : 0 < K) (hT : Tens gw) : FOk (env K gw) (X7 K gw) := (X6_ok hK hT).ch
theorem X7_some (hK : 0 < K) (hT : Tens gw) {l lt : List Nat} {rid tid atid ar : Nat} {tab : List V} {R : List (List V × Nat)} {rw : AV} (h : RelD s l lt rid tid atid ar tab R rw) (hR : R.length < 16777216)
    (f : FuncId) (a b : List AV) (p : List V × Nat → Bool)
    (hclo : ∀ r ∈ R, ∀ s2 : St, s.nx ≤ s2.nx → (∀ i, i < s.nx → s2.get i = s.get i) → X6 K gw f (a ++ (.agg (rowC tab r) :: b)) s2 = some (.bool (p r), s2, [])) :
    X7 K gw 34 [.ptr rid 0, .fn (.func f) a b] s = some (.sl (encD (srt (Sel p R))), s, []) := by
  have hp : someP (X6 K gw) [.ptr rid 0, .fn (.func f) a b] s (.sl (encD (srt (Sel p R)))) s [] := by
    intro rid' f' a' b' he l2 lt2 tid2 atid2 ar2 tab2 R2 rw2 h2 p2 hp2
    simp only [List.cons.injEq, AV.ptr.injEq, AV.fn.injEq, Fn.func.injEq, and_true, true_and] at he
    obtain ⟨rfl, rfl, rfl, rfl⟩ := he
    obtain ⟨_, _, rfl, rfl, rfl, _⟩ := h.det h2
    refine ⟨?_, rfl, rfl⟩
    have : Sel p R2 = Sel p2 R2 := by
      unfold Sel
      rw [List.filter_congr fun r hr => ?_]
      have h3 := hclo r hr s (Nat.le_refl _) fun _ _ => rfl
      rw [hp2 r hr] at h3
      simp only [Option.some.injEq, Prod.mk.injEq, AV.bool.injEq, and_true] at h3
      exact h3.symm
    rw [this]
  obtain ⟨r, s', l', h6, h8⟩ := Fns.ch_some (P := someP (X6 K gw)) (F := X6 K gw) (l := []) ((ft_some (X6_ok hK hT) (fun t s2 => X6_of t s2) (fun D s2 => X6_srt D s2) h hR f a b p hclo).wider (W' := fun i => i ∈ ([] : List Nat)) fun i h => h.elim) hp
  obtain ⟨rfl, rfl, rfl⟩ := h8 rid f a b rfl l lt tid atid ar tab R rw h p fun r hr => hclo r hr s (Nat.le_refl _) fun _ _ => rfl
  exact h6
theorem ft_All (hK : 0 < K) (hT : Tens gw) {l lt : List Nat} {rid tid atid ar : Nat} {tab : List V} {R : List (List V × Nat)} {rw : AV} (h : RelD s l lt rid tid atid ar tab R rw) (hR : R.length < 16777216) :
    FT (env K gw) NoW 15 [.ptr rid 0] s (.sl (encD (srt (Sel (fun _ => true) R)))) s := by
  have hs := X7_some hK hT h hR 35 [] [] (fun _ => true) fun r hr s2 _ _ => by
    unfold X6
    rw [Fns.ch_other (by decide), Fns.addP, if_neg (by decide), Fns.addP, if_pos rfl]
    rfl
  refine FT.pure (fn := Tryd.f15) (X7_ok hK hT) mixed Tryd.func15 (by kernel_rfl) (by rfl) rfl rfl (by simp) rfl fun μ w => ?_
  repeat' (first
    | refine WP.t ?_ | refine WP.k ?_ | refine WP.e ?_ | refine Qn ?_ | refine Qr ?_ | refine Qe ?_ | refine Bn ?_ | refine Br ?_ | refine Be ?_ | refine Bx (by decide) ?_
    | (refine RS.nl ?_; refine hk _ _ ?_; clear hk k)
    | ((first | refine RS.st fun A B hA hB => ?_ | refine RQ.st fun A B hA hB => ?_); simp [hs, onW_t, onW_f, onV_s]; first | ((first | refine hA _ _ _ ?_ ?_ | refine hA _ _ _ ?_ (by first | exact .inl rfl | exact .inr (by decide)) ?_); (focus (simp [hs] <;> omega)); clear hA hB A B) | (refine hB ?_; clear hA hB A B) | (refine onV_if ?_ ?_; (focus (first | omega | (refine ⟨?_, ?_⟩ <;> omega))); simp only [onV_s]; (first | refine hA _ _ _ ?_ ?_ | refine hA _ _ _ ?_ (by first | exact .inl rfl | exact .inr (by decide)) ?_); (focus (simp [hs] <;> omega)); clear hA hB A B))
    | (refine RQ.nl ?_; refine hk _ _ ?_; clear hk k)
    | refine WP.sr fun k hk => ?_ | refine WP.r fun k hk => ?_
    | refine WP.sd _ rfl fun k hk => ?_ | refine WP.d _ rfl fun k hk => ?_
    | (refine WP.cc fun A B hA hB => ?_; simp [hs, onB_t, onB_f]; first | (refine hA ?_; clear hA hB A B) | (refine hB ?_; clear hA hB A B) | (refine onB_if (fun h => hA ?_) (fun h => hB ?_) <;> clear hA hB A B))
    | refine WP.q ?_ | refine WP.b ?_)
  exact ⟨.inr rfl, by simp, below_sl.2 (below_esD _ _)⟩
theorem ft_Delta (hK : 0 < K) (hT : Tens gw) {l lt : List Nat} {rid tid atid ar : Nat} {tab : List V} {R : List (List V × Nat)} {rw : AV} (h : RelD s l lt rid tid atid ar tab R rw) (hR : R.length < 16777216) :
    FT (env K gw) NoW 28 [.ptr rid 0] s (.sl (encD (srt (Sel isDelta R)))) s := by
  have hs := X7_some hK hT h hR 42 [] [] isDelta fun r hr s2 _ _ => by
    unfold X6
    rw [Fns.ch_other (by decide), Fns.addP, if_pos rfl]
    have hbe : ((r.2 : Int) == 1) = decide (r.2 = 1) := by
      by_cases e : r.2 = 1
      · simp [e]
      · have : ¬ ((r.2 : Nat) : Int) = 1 := by omega
        simp [e, this]
    simp [rowC, pDelC, isDelta, hbe]
  refine FT.pure (fn := Tryd.f28) (X7_ok hK hT) mixed Tryd.func28 (by kernel_rfl) (by rfl) rfl rfl (by simp) rfl fun μ w => ?_
  repeat' (first
    | refine WP.t ?_ | refine WP.k ?_ | refine WP.e ?_ | refine Qn ?_ | refine Qr ?_ | refine Qe ?_ | refine Bn ?_ | refine Br ?_ | refine Be ?_ | refine Bx (by decide) ?_
    | (refine RS.nl ?_; refine hk _ _ ?_; clear hk k)
    | ((first | refine RS.st fun A B hA hB => ?_ | refine RQ.st fun A B hA hB => ?_); simp [hs, onW_t, onW_f, onV_s]; first | ((first | refine hA _ _ _ ?_ ?_ | refine hA _ _ _ ?_ (by first | exact .inl rfl | exact .inr (by decide)) ?_); (focus (simp [hs] <;> omega)); clear hA hB A B) | (refine hB ?_; clear hA hB A B) | (refine onV_if ?_ ?_; (focus (first | omega | (refine ⟨?_, ?_⟩ <;> omega))); simp only [onV_s]; (first | refine hA _ _ _ ?_ ?_ | refine hA _ _ _ ?_ (by first | exact .inl rfl | exact .inr (by decide)) ?_); (focus (simp [hs] <;> omega)); clear hA hB A B))
    | (refine RQ.nl ?_; refine hk _ _ ?_; clear hk k)
    | refine WP.sr fun k hk => ?_ | refine WP.r fun k hk => ?_
    | refine WP.sd _ rfl fun k hk => ?_ | refine WP.d _ rfl fun k hk => ?_
    | (refine WP.cc fun A B hA hB => ?_; simp [hs, onB_t, onB_f]; first | (refine hA ?_; clear hA hB A B) | (refine hB ?_; clear hA hB A B) | (refine onB_if (fun h => hA ?_) (fun h => hB ?_) <;> clear hA hB A B))
    | refine WP.q ?_ | refine WP.b ?_)
  exact ⟨.inr rfl, by simp, below_sl.2 (below_esD _ _)⟩
def pSome0 : List AV → Option AV
  | [.np, _] => some (.sl [])
  | _ => none
def Y0 : Fns := F0.addP 34 pSome0
theorem Y0_ok : FOk (env K gw) Y0 := by
  refine F0_ok.addP ?_
  intro xs s r h
  unfold pSome0 at h
  split at h
  · cases h; exact ft_some0 _
  · cases h
theorem ft_All0 : FT (env K gw) NoW 15 [.np] s (.sl []) s := by
  refine FT.pure (fn := Tryd.f15) Y0_ok mixed Tryd.func15 (by kernel_rfl) (by rfl) rfl rfl (by simp) rfl fun μ w => ?_
  repeat' (first
    | refine WP.t ?_ | refine WP.k ?_ | refine WP.e ?_ | refine Qn ?_ | refine Qr ?_ | refine Qe ?_ | refine Bn ?_ | refine Br ?_ | refine Be ?_ | refine Bx (by decide) ?_
    | (refine RS.nl ?_; refine hk _ _ ?_; clear hk k)
    | ((first | refine RS.st fun A B hA hB => ?_ | refine RQ.st fun A B hA hB => ?_); simp [Y0, pSome0, onW_t, onW_f, onV_s]; first | ((first | refine hA _ _ _ ?_ ?_ | refine hA _ _ _ ?_ (by first | exact .inl rfl | exact .inr (by decide)) ?_); (focus (simp [Y0, pSome0] <;> omega)); clear hA hB A B) | (refine hB ?_; clear hA hB A B) | (refine onV_if ?_ ?_; (focus (first | omega | (refine ⟨?_, ?_⟩ <;> omega))); simp only [onV_s]; (first | refine hA _ _ _ ?_ ?_ | refine hA _ _ _ ?_ (by first | exact .inl rfl | exact .inr (by decide)) ?_); (focus (simp [Y0, pSome0] <;> omega)); clear hA hB A B))
    | (refine RQ.nl ?_; refine hk _ _ ?_; clear hk k)
    | refine WP.sr fun k hk => ?_ | refine WP.r fun k hk => ?_
    | refine WP.sd _ rfl fun k hk => ?_ | refine WP.d _ rfl fun k hk => ?_
    | (refine WP.cc fun A B hA hB => ?_; simp [Y0, pSome0, onB_t, onB_f]; first | (refine hA ?_; clear hA hB A B) | (refine hB ?_; clear hA hB A B) | (refine onB_if (fun h => hA ?_) (fun h => hB ?_) <;> clear hA hB A B))
    | refine WP.q ?_ | refine WP.b ?_)
  simp
theorem ft_Delta0 : FT (env K gw) NoW 28 [.np] s (.sl []) s := by
  refine FT.pure (fn := Tryd.f28) Y0_ok mixed Tryd.func28 (by kernel_rfl) (by rfl) rfl rfl (by simp) rfl fun μ w => ?_
  repeat' (first
    | refine WP.t ?_ | refine WP.k ?_ | refine WP.e ?_ | refine Qn ?_ | refine Qr ?_ | refine Qe ?_ | refine Bn ?_ | refine Br ?_ | refine Be ?_ | refine Bx (by decide) ?_
    | (refine RS.nl ?_; refine hk _ _ ?_; clear hk k)
    | ((first | refine RS.st fun A B hA hB => ?_ | refine RQ.st fun A B hA hB => ?_); simp [Y0, pSome0, onW_t, onW_f, onV_s]; first | ((first | refine hA _ _ _ ?_ ?_ | refine hA _ _ _ ?_ (by first | exact .inl rfl | exact .inr (by decide)) ?_); (focus (simp [Y0, pSome0] <;> omega)); clear hA hB A B) | (refine hB ?_; clear hA hB A B) | (refine onV_if ?_ ?_; (focus (first | omega | (refine ⟨?_, ?_⟩ <;> omega))); simp only [onV_s]; (first | refine hA _ _ _ ?_ ?_ | refine hA _ _ _ ?_ (by first | exact .inl rfl | exact .inr (by decide)) ?_); (focus (simp [Y0, pSome0] <;> omega)); clear hA hB A B))
    | (refine RQ.nl ?_; refine hk _ _ ?_; clear hk k)
    | refine WP.sr fun k hk => ?_ | refine WP.r fun k hk => ?_
    | refine WP.sd _ rfl fun k hk => ?_ | refine WP.d _ rfl fun k hk => ?_
    | (refine WP.cc fun A B hA hB => ?_; simp [Y0, pSome0, onB_t, onB_f]; first | (refine hA ?_; clear hA hB A B) | (refine hB ?_; clear hA hB A B) | (refine onB_if (fun h => hA ?_) (fun h => hB ?_) <;> clear hA hB A B))
    | refine WP.q ?_ | refine WP.b ?_)
  simp
end
end Go.Am
namespace Go.Am
open Go.Proofs
def ints (l : List Int) : List (List AV) := l.map fun n => [.int .i64 n]
def okC (ar : Nat) (cols : List Int) : Bool := cols.all fun c => decide (0 ≤ c) && decide (c < ar)
theorem ints_nums (l : List Int) (h : ∀ c ∈ l, 0 ≤ c) : ints l = nums (l.map Int.toNat) := by
  simp only [ints, nums, List.map_map]
  refine List.map_congr_left fun c hc => ?_
  have := h c hc
  simp [Int.toNat_of_nonneg this]
theorem RelD.keep {s s1 : St} {l lt : List Nat} {rid tid atid ar : Nat} {tab : List V} {R : List (List V × Nat)} {rw : AV} (h : RelD s l lt rid tid atid ar tab R rw) (hn : s.nx ≤ s1.nx) (hg : ∀ i ∈ l, s1.get i = s.get i) : RelD s1 l lt rid tid atid ar tab R rw := by
  refine ⟨h.ht.keep hn fun i hi => hg i (h.sub i hi), h.sub, h.hr, h.hat, h.nr, h.na, h.ra, h.own.keep hn hg, by rw [hg _ h.hr]; exact h.g, by rw [hg _ h.hat]; exact h.a, ?_, h.ok⟩
  rcases h.rows with h1 | ⟨hne, rd, d1, d2, d3, d4, hrw, hrd⟩
  · exact .inl h1
  · exact .inr ⟨hne, rd, d1, d2, d3, d4, hrw, by rw [hg _ d1]; exact hrd⟩
section
variable {K : Nat} {gw : World} {s : St}
attribute [local simp] awanted xop zOf zrow aop ev T0 Slots.put Slots.set Slots.get awr WOk AV.may ofConst abinop aint isConst St.get_push St.get_put St.live AV.fit AV.cells AV.one fieldOf afieldAddr aload ofCells astore splice May eqres env_ti FinP FinZ FinW ares aresL ares1 Fns.addP Fns.add Fns.a0 Fns.a1 Fns.a2 Fns.a3 Fns.a4 abuiltin alenOk alen aindex elemOfT elemId abuildSlice afill chunks ard aappend isSS AV.isStr aminmax placesOf abuild afield aidx isStrD isStrDesc astrop aslice asliceOk abound arange anext aextract aunop aeq AV.ck avseq aveq aconv aconvert onB_t onB_f List.range_succ ti0 ti1 ti2 ti3 ti4 ti5 ti6 ti7 ti8 ti9 ti10 ti11 ti12 ti13 ti14 ti15 ti16 ti17 ti18 ti19 ti20 ti21 ti22 ti23 ti24 ti25 ti26 ti27 ti28 ti29 ti30 ti31 ti32 ti33 ti34 ti35 ti36 ti37 ti38 ti39 ti40 ti41 ti42 ti43 ti44 ti45 ti46 ti47 ti48 ti49 ti50 ti51 ti52 ti53 ti54 ti55 ti56 ti57 ti58 ti59 ti60 ti61 ti62 ti63 ti64 ti65 ti66 ti67 ti68 ti69 ti70 ti71 ti72 ti73 ti74 ti75 ti76 ti77 ti78 ti79 ti80 ti81 ti82 ti83 ti84 ti85 ti86 ti87 ti88 ti89 ti90 ti91 ti92 ti93 ti94 ti95 ti96 ti97 ti98 ti99 ti100 ti101 ti102 ti103 ti104 ti105 ti106 ti107 ti108 ti109 ti110 ti111 ti112 ti113 ti114 ti115 ti116 ti117 ti118 ti119 ti120 ti121 ti122 ti123 ti124 ti125 ti126 ti127 ti128 ti129 ti130 ti131 ti132 ti133 ti134 ti135 ti136 ti137 ti138 ti139 ti140 ti141 ti142 ti143 ti144 ti145 ti146 ti147
theorem X7_nums (hK : 0 < K) (hT : Tens gw) {l lt : List Nat} {rid tid atid ar : Nat} {tab : List V} {R : List (List V × Nat)} {rw : AV} (h : RelD s l lt rid tid atid ar tab R rw) (t : List V) (hl : t.length < 1073741824) :
    X7 K gw 38 [.ptr rid 0, .sl (t.map V.cs)] s = some (numsV tab t, s, []) := by
  obtain ⟨mid, c, p1, p2, p3, p4, p5, p6⟩ := h.ht.var
  unfold X7 X6 X5
  rw [Fns.ch_other (by decide), Fns.ch_other (by decide), Fns.addP, if_neg (by decide), Fns.addP, if_neg (by decide), Fns.ch_other (by decide)]
  exact X4_nums hK hT t hl (h.own rid h.hr).1 h.g p1 p5 p2 p6
theorem ft_Match0 (x y z : AV) (hx : ∃ es, x = .sl es) (hz : ∃ b, z = .bool b) : FT (env K gw) NoW 19 [.np, x, y, z] s (.tup [.sl [], .int .i64 1]) s := by
  obtain ⟨es, rfl⟩ := hx
  obtain ⟨b, rfl⟩ := hz
  refine FT.data (fn := Tryd.f19) F0_ok mixed Tryd.func19 (by kernel_rfl) (by rfl) rfl rfl (by simp) rfl fun μ w => ?_
  repeat' (first
    | refine WP.t ?_ | refine WP.k ?_ | refine WP.e ?_ | refine Qn ?_ | refine Qr ?_ | refine Qe ?_ | refine Bn ?_ | refine Br ?_ | refine Be ?_ | refine Bx (by decide) ?_
    | (refine RS.nl ?_; refine hk _ _ ?_; clear hk k)
    | ((first | refine RS.st fun A B hA hB => ?_ | refine RQ.st fun A B hA hB => ?_); simp [onW_t, onW_t, onW_f, onV_s]; first | ((first | refine hA _ _ _ ?_ ?_ | refine hA _ _ _ ?_ (by first | exact .inl rfl | exact .inr (by decide)) ?_); (focus (simp [onW_t] <;> omega)); clear hA hB A B) | (refine hB ?_; clear hA hB A B) | (refine onV_if ?_ ?_; (focus (first | omega | (refine ⟨?_, ?_⟩ <;> omega))); simp only [onV_s]; (first | refine hA _ _ _ ?_ ?_ | refine hA _ _ _ ?_ (by first | exact .inl rfl | exact .inr (by decide)) ?_); (focus (simp [onW_t] <;> omega)); clear hA hB A B))
    | (refine RQ.nl ?_; refine hk _ _ ?_; clear hk k)
    | refine WP.sr fun k hk => ?_ | refine WP.r fun k hk => ?_
    | refine WP.sd _ rfl fun k hk => ?_ | refine WP.d _ rfl fun k hk => ?_
    | (refine WP.cc fun A B hA hB => ?_; simp [onW_t, onB_t, onB_f]; first | (refine hA ?_; clear hA hB A B) | (refine hB ?_; clear hA hB A B) | (refine onB_if (fun h => hA ?_) (fun h => hB ?_) <;> clear hA hB A B))
    | refine WP.q ?_ | refine WP.b ?_)
  exact ⟨.inr rfl, .tup [.nsl, .int .i64 1], by simp, frz_tup2 .nil (.same _ (.int _ _))⟩
theorem ft_MatchL {l lt : List Nat} {rid tid atid ar : Nat} {tab : List V} {R : List (List V × Nat)} {rw : AV} (h : RelD s l lt rid tid atid ar tab R rw) (cols : List Int) (vals : List V) (only : Bool) (hl : cols.length ≠ vals.length) :
    FT (env K gw) NoW 19 [.ptr rid 0, .sl (ints cols), .sl (vals.map V.cs), .bool only] s (.tup [.sl [], .int .i64 1]) s := by
  refine FT.data (fn := Tryd.f19) F0_ok mixed Tryd.func19 (by kernel_rfl) (by rfl) rfl rfl (by simp) rfl fun μ w => ?_
  have hb : (((cols.length : Nat) : Int) != ((vals.length : Nat) : Int)) = true := bne_iff_ne.2 (by omega)
  have hnl : (ints cols).length = cols.length := by simp [ints]
  have hg := h.g
  have hr := (h.own rid h.hr).1
  have n1 : ¬ rid = s.nx := by omega
  have n2 : ¬ rid = s.nx + 1 := by omega
  repeat' (first
    | refine WP.t ?_ | refine WP.k ?_ | refine WP.e ?_ | refine Qn ?_ | refine Qr ?_ | refine Qe ?_ | refine Bn ?_ | refine Br ?_ | refine Be ?_ | refine Bx (by decide) ?_
    | (refine RS.nl ?_; refine hk _ _ ?_; clear hk k)
    | ((first | refine RS.st fun A B hA hB => ?_ | refine RQ.st fun A B hA hB => ?_); simp [hb, hnl, hg, hr, n1, n2, relO, onW_t, onW_f, onV_s]; first | ((first | refine hA _ _ _ ?_ ?_ | refine hA _ _ _ ?_ (by first | exact .inl rfl | exact .inr (by decide)) ?_); (focus (simp [hb, hnl, hg, hr, n1, n2, relO] <;> omega)); clear hA hB A B) | (refine hB ?_; clear hA hB A B) | (refine onV_if ?_ ?_; (focus (first | omega | (refine ⟨?_, ?_⟩ <;> omega))); simp only [onV_s]; (first | refine hA _ _ _ ?_ ?_ | refine hA _ _ _ ?_ (by first | exact .inl rfl | exact .inr (by decide)) ?_); (focus (simp [hb, hnl, hg, hr, n1, n2, relO] <;> omega)); clear hA hB A B))
    | (refine RQ.nl ?_; refine hk _ _ ?_; clear hk k)
    | refine WP.sr fun k hk => ?_ | refine WP.r fun k hk => ?_
    | refine WP.sd _ rfl fun k hk => ?_ | refine WP.d _ rfl fun k hk => ?_
    | (refine WP.cc fun A B hA hB => ?_; simp [hb, hnl, hg, hr, n1, n2, relO, onB_t, onB_f]; first | (refine hA ?_; clear hA hB A B) | (refine hB ?_; clear hA hB A B) | (refine onB_if (fun h => hA ?_) (fun h => hB ?_) <;> clear hA hB A B))
    | refine WP.q ?_ | refine WP.b ?_)
  exact ⟨.inr rfl, .tup [.nsl, .int .i64 1], by simp, frz_tup2 .nil (.same _ (.int _ _))⟩
/-- What Match tells. -/
def matchV (ar : Nat) (R : List (List V × Nat)) (cols : List Int) (vals : List V) (only : Bool) : AV :=
  if cols.length = vals.length ∧ okC ar cols = true then .tup [.sl (encD (srt (Sel (matQ (cols.map Int.toNat) vals only) R))), .int .i64 0] else .tup [.sl [], .int .i64 1]
theorem ft_Match (hK : 0 < K) (hT : Tens gw) {l lt : List Nat} {rid tid atid ar : Nat} {tab : List V} {R : List (List V × Nat)} {rw : AV} (h : RelD s l lt rid tid atid ar tab R rw) (hR : R.length < 16777216) (cols : List Int) (vals : List V) (only : Bool)
    (hcl : cols.length < 1073741824) : FT (env K gw) NoW 19 [.ptr rid 0, .sl (ints cols), .sl (vals.map V.cs), .bool only] s (matchV ar R cols vals only) s := by
  rcases Decidable.em (cols.length = vals.length) with hl | hl
  rotate_left
  · rw [matchV, if_neg (fun h => hl h.1)]
    exact ft_MatchL h cols vals only hl
  have hnl : (ints cols).length = cols.length := by simp [ints]
  refine FT.data (fn := Tryd.f19) (X7_ok hK hT) mixed Tryd.func19 (by kernel_rfl) (by rfl) rfl rfl (by simp) rfl fun μ w => ?_
  have hg := h.g
  have hr := (h.own rid h.hr).1
  have hb : (((cols.length : Nat) : Int) != ((vals.length : Nat) : Int)) = false := by simp [hl]
  have hb2 : (((vals.length : Nat) : Int) != ((vals.length : Nat) : Int)) = false := by simp
  have n1 : ¬ rid = s.nx := by omega
  have n2 : ¬ rid = s.nx + 1 := by omega
  repeat' (first
    | refine WP.t ?_ | refine WP.k ?_ | refine WP.e ?_ | refine Qn ?_ | refine Qr ?_ | refine Qe ?_ | refine Bn ?_ | refine Br ?_ | refine Be ?_ | refine Bx (by decide) ?_
    | (refine RS.nl ?_; refine hk _ _ ?_; clear hk k)
    | ((first | refine RS.st fun A B hA hB => ?_ | refine RQ.st fun A B hA hB => ?_); simp [hb, hb2, hnl, hl, hg, hr, n1, n2, relO, onW_t, onW_f, onV_s]; first | ((first | refine hA _ _ _ ?_ ?_ | refine hA _ _ _ ?_ (by first | exact .inl rfl | exact .inr (by decide)) ?_); (focus (simp [hb, hb2, hnl, hl, hg, hr, n1, n2, relO] <;> omega)); clear hA hB A B) | (refine hB ?_; clear hA hB A B) | (refine onV_if ?_ ?_; (focus (first | omega | (refine ⟨?_, ?_⟩ <;> omega))); simp only [onV_s]; (first | refine hA _ _ _ ?_ ?_ | refine hA _ _ _ ?_ (by first | exact .inl rfl | exact .inr (by decide)) ?_); (focus (simp [hb, hb2, hnl, hl, hg, hr, n1, n2, relO] <;> omega)); clear hA hB A B))
    | (refine RQ.nl ?_; refine hk _ _ ?_; clear hk k)
    | refine WP.sr fun k hk => ?_ | refine WP.r fun k hk => ?_
    | refine WP.sd _ rfl fun k hk => ?_ | refine WP.d _ rfl fun k hk => ?_
    | (refine WP.cc fun A B hA hB => ?_; simp [hb, hb2, hnl, hl, hg, hr, n1, n2, relO, onB_t, onB_f]; first | (refine hA ?_; clear hA hB A B) | (refine hB ?_; clear hA hB A B) | (refine onB_if (fun h => hA ?_) (fun h => hB ?_) <;> clear hA hB A B))
    | refine WP.q ?_ | refine WP.b ?_)
  refine WP_loop (fun m T s' => ∃ i : Nat, m + i = cols.length ∧ T.get 0 = .ptr rid 0 ∧ T.get 2 = .sl (vals.map V.cs) ∧ T.get 5 = .ptr s.nx 0 ∧ T.get 7 = .ptr (s.nx + 1) 0 ∧ T.get 23 = .sl (ints cols) ∧ T.get 24 = .int .i64 cols.length ∧ T.get 25 = .int .i64 i ∧
    s' = (s.push (.var 44 [.sl (ints cols)])).push (.var 4 [.bool only]) ∧ okC ar (cols.take i) = true) cols.length ⟨0, by simp, by simp, by simp, by simp, by simp, by simp, by simp [hl], by simp, rfl, by simp [okC]⟩ ?_
  rintro m T s' ⟨i, hmi, k0, k2, k5, k7, k23, k24, k25, hs', hok⟩
  have k1 : s'.get rid = some (relO tid ar rw atid) := by
    have n1 : ¬ rid = s.nx := by omega
    have n2 : ¬ rid = s.nx + 1 := by omega
    rw [hs']; simp [St.get_push, n1, n2, hg]
  have hn' : s'.nx = s.nx + 2 := by rw [hs']; simp
  have hrn : rid < s'.nx := by omega
  have hf' : ∀ j, j < s.nx → s'.get j = s.get j := fun j hj => by
    have n1 : ¬ j = s.nx := by omega
    have n2 : ¬ j = s.nx + 1 := by omega
    rw [hs']; simp [St.get_push, n1, n2]
  have c5 : s'.get s.nx = some (.var 44 [.sl (ints cols)]) := by rw [hs']; simp [St.get_push]
  have c7 : s'.get (s.nx + 1) = some (.var 4 [.bool only]) := by rw [hs']; simp [St.get_push]
  by_cases hi : i < cols.length
  · have hw : IntKind.i64.wrap ((i : Int) + 1) = (i : Int) + 1 := wrap64 (by omega) (by omega)
    have hlt : ((i : Int) < (cols.length : Int)) := by omega
    have hi2 : i < vals.length := by omega
    have htk : cols.take (i + 1) = cols.take i ++ [cols[i]] := List.take_succ_eq_append_getElem hi
    have hmem : cols[i] ∈ cols := List.getElem_mem hi
    have ha3 : ∀ h : i < (ints cols).length, (ints cols)[i]'h = [.int .i64 cols[i]] := fun h => by simp [ints]
    generalize hcv : cols[i] = c at *
    by_cases hc0 : c < 0
    · have hno : ¬ (cols.length = vals.length ∧ okC ar cols = true) := fun hx => by
        have := List.all_eq_true.1 hx.2 c hmem
        simp at this
        omega
      rw [matchV, if_neg hno]
      repeat' (first
        | refine WP.t ?_ | refine WP.k ?_ | refine WP.e ?_ | refine Qn ?_ | refine Qr ?_ | refine Qe ?_ | refine Bn ?_ | refine Br ?_ | refine Be ?_ | refine Bx (by decide) ?_
        | (refine RS.nl ?_; refine hk _ _ ?_; clear hk k)
        | ((first | refine RS.st fun A B hA hB => ?_ | refine RQ.st fun A B hA hB => ?_); simp [k0, k2, k5, k7, k23, k24, k25, hlt, hi, hi2, hw, ha3, hnl, hc0, hl, onW_t, onW_f, onV_s]; first | ((first | refine hA _ _ _ ?_ ?_ | refine hA _ _ _ ?_ (by first | exact .inl rfl | exact .inr (by decide)) ?_); (focus (simp [k0, k2, k5, k7, k23, k24, k25, hlt, hi, hi2, hw, ha3, hnl, hc0, hl] <;> omega)); clear hA hB A B) | (refine hB ?_; clear hA hB A B) | (refine onV_if ?_ ?_; (focus (first | omega | (refine ⟨?_, ?_⟩ <;> omega))); simp only [onV_s]; (first | refine hA _ _ _ ?_ ?_ | refine hA _ _ _ ?_ (by first | exact .inl rfl | exact .inr (by decide)) ?_); (focus (simp [k0, k2, k5, k7, k23, k24, k25, hlt, hi, hi2, hw, ha3, hnl, hc0, hl] <;> omega)); clear hA hB A B))
        | (refine RQ.nl ?_; refine hk _ _ ?_; clear hk k)
        | refine WP.sr fun k hk => ?_ | refine WP.r fun k hk => ?_
        | refine WP.sd _ rfl fun k hk => ?_ | refine WP.d _ rfl fun k hk => ?_
        | (refine WP.cc fun A B hA hB => ?_; simp [k0, k2, k5, k7, k23, k24, k25, hlt, hi, hi2, hw, ha3, hnl, hc0, hl, onB_t, onB_f]; first | (refine hA ?_; clear hA hB A B) | (refine hB ?_; clear hA hB A B) | (refine onB_if (fun h => hA ?_) (fun h => hB ?_) <;> clear hA hB A B))
        | refine WP.q ?_ | refine WP.b ?_)
      exact ⟨.inr rfl, .tup [.nsl, .int .i64 1], by simp, frz_tup2 .nil (.same _ (.int _ _))⟩
    · by_cases hc1 : (ar : Int) ≤ c
      · have hno : ¬ (cols.length = vals.length ∧ okC ar cols = true) := fun hx => by
          have := List.all_eq_true.1 hx.2 c hmem
          simp at this
          omega
        rw [matchV, if_neg hno]
        repeat' (first
          | refine WP.t ?_ | refine WP.k ?_ | refine WP.e ?_ | refine Qn ?_ | refine Qr ?_ | refine Qe ?_ | refine Bn ?_ | refine Br ?_ | refine Be ?_ | refine Bx (by decide) ?_
          | (refine RS.nl ?_; refine hk _ _ ?_; clear hk k)
          | ((first | refine RS.st fun A B hA hB => ?_ | refine RQ.st fun A B hA hB => ?_); simp [k0, k2, k5, k7, k23, k24, k25, hlt, hi, hi2, hw, ha3, hnl, hc0, hc1, hl, k1, relO, hrn, anilCheck, onW_t, onW_f, onV_s]; first | ((first | refine hA _ _ _ ?_ ?_ | refine hA _ _ _ ?_ (by first | exact .inl rfl | exact .inr (by decide)) ?_); (focus (simp [k0, k2, k5, k7, k23, k24, k25, hlt, hi, hi2, hw, ha3, hnl, hc0, hc1, hl, k1, relO, hrn, anilCheck] <;> omega)); clear hA hB A B) | (refine hB ?_; clear hA hB A B) | (refine onV_if ?_ ?_; (focus (first | omega | (refine ⟨?_, ?_⟩ <;> omega))); simp only [onV_s]; (first | refine hA _ _ _ ?_ ?_ | refine hA _ _ _ ?_ (by first | exact .inl rfl | exact .inr (by decide)) ?_); (focus (simp [k0, k2, k5, k7, k23, k24, k25, hlt, hi, hi2, hw, ha3, hnl, hc0, hc1, hl, k1, relO, hrn, anilCheck] <;> omega)); clear hA hB A B))
          | (refine RQ.nl ?_; refine hk _ _ ?_; clear hk k)
          | refine WP.sr fun k hk => ?_ | refine WP.r fun k hk => ?_
          | refine WP.sd _ rfl fun k hk => ?_ | refine WP.d _ rfl fun k hk => ?_
          | (refine WP.cc fun A B hA hB => ?_; simp [k0, k2, k5, k7, k23, k24, k25, hlt, hi, hi2, hw, ha3, hnl, hc0, hc1, hl, k1, relO, hrn, anilCheck, onB_t, onB_f]; first | (refine hA ?_; clear hA hB A B) | (refine hB ?_; clear hA hB A B) | (refine onB_if (fun h => hA ?_) (fun h => hB ?_) <;> clear hA hB A B))
          | refine WP.q ?_ | refine WP.b ?_)
        exact ⟨.inr rfl, .tup [.nsl, .int .i64 1], by simp, frz_tup2 .nil (.same _ (.int _ _))⟩
      · skip
        repeat' (first
          | refine WP.t ?_ | refine WP.k ?_ | refine WP.e ?_ | refine Qn ?_ | refine Qr ?_ | refine Qe ?_ | refine Bn ?_ | refine Br ?_ | refine Be ?_ | refine Bx (by decide) ?_
          | (refine RS.nl ?_; refine hk _ _ ?_; clear hk k)
          | ((first | refine RS.st fun A B hA hB => ?_ | refine RQ.st fun A B hA hB => ?_); simp [k0, k2, k5, k7, k23, k24, k25, hlt, hi, hi2, hw, ha3, hnl, hc0, hc1, hl, k1, relO, hrn, anilCheck, onW_t, onW_f, onV_s]; first | ((first | refine hA _ _ _ ?_ ?_ | refine hA _ _ _ ?_ (by first | exact .inl rfl | exact .inr (by decide)) ?_); (focus (simp [k0, k2, k5, k7, k23, k24, k25, hlt, hi, hi2, hw, ha3, hnl, hc0, hc1, hl, k1, relO, hrn, anilCheck] <;> omega)); clear hA hB A B) | (refine hB ?_; clear hA hB A B) | (refine onV_if ?_ ?_; (focus (first | omega | (refine ⟨?_, ?_⟩ <;> omega))); simp only [onV_s]; (first | refine hA _ _ _ ?_ ?_ | refine hA _ _ _ ?_ (by first | exact .inl rfl | exact .inr (by decide)) ?_); (focus (simp [k0, k2, k5, k7, k23, k24, k25, hlt, hi, hi2, hw, ha3, hnl, hc0, hc1, hl, k1, relO, hrn, anilCheck] <;> omega)); clear hA hB A B))
          | (refine RQ.nl ?_; refine hk _ _ ?_; clear hk k)
          | refine WP.sr fun k hk => ?_ | refine WP.r fun k hk => ?_
          | refine WP.sd _ rfl fun k hk => ?_ | refine WP.d _ rfl fun k hk => ?_
          | (refine WP.cc fun A B hA hB => ?_; simp [k0, k2, k5, k7, k23, k24, k25, hlt, hi, hi2, hw, ha3, hnl, hc0, hc1, hl, k1, relO, hrn, anilCheck, onB_t, onB_f]; first | (refine hA ?_; clear hA hB A B) | (refine hB ?_; clear hA hB A B) | (refine onB_if (fun h => hA ?_) (fun h => hB ?_) <;> clear hA hB A B))
          | refine WP.q ?_ | refine WP.b ?_)
        refine ⟨m - 1, by omega, i + 1, by omega, by simp [k0], by simp [k2], by simp [k5], by simp [k7], by simp [k23], by simp [k24, hl], by simp, hs', ?_⟩
        rw [htk, okC, List.all_append, Bool.and_eq_true]
        exact ⟨hok, by simp; omega⟩
  · have hlt : ¬ ((i : Int) < (cols.length : Int)) := by omega
    have he : i = cols.length := by omega
    have htt : cols.take i = cols := by rw [he, List.take_length]
    rw [htt] at hok
    rw [matchV, if_pos ⟨hl, hok⟩]
    have hcn : ints cols = nums (cols.map Int.toNat) := ints_nums cols fun c hc => by
      have := List.all_eq_true.1 hok c hc
      simp at this
      omega
    have hlt2 : ¬ ((i : Int) < (vals.length : Int)) := by omega
    have hD := h.keep (s1 := s') (by omega) fun j hj => hf' j (h.own j hj).1
    have hnu := X7_nums (K := K) (gw := gw) hK hT hD vals (by omega)
    cases ha : allIn tab vals with
    | false =>
      have hsel : Sel (matQ (cols.map Int.toNat) vals only) R = [] := by
        unfold Sel
        rw [List.map_eq_nil_iff, List.filter_eq_nil_iff]
        intro r hr hq
        have h3 := h.ok.row r hr
        rw [matQ, mV_no h3.2.1 h3.2.2.1 _ _ (by simpa using hl) ha, Bool.false_and] at hq
        cases hq
      have hs0 : srt [] = [] := rfl
      rw [hsel, hs0]
      simp only [numsV, ha] at hnu
      simp only [Bool.false_eq_true, if_false] at hnu
      repeat' (first
        | refine WP.t ?_ | refine WP.k ?_ | refine WP.e ?_ | refine Qn ?_ | refine Qr ?_ | refine Qe ?_ | refine Bn ?_ | refine Br ?_ | refine Be ?_ | refine Bx (by decide) ?_
        | (refine RS.nl ?_; refine hk _ _ ?_; clear hk k)
        | ((first | refine RS.st fun A B hA hB => ?_ | refine RQ.st fun A B hA hB => ?_); simp [k0, k2, k5, k7, k23, k24, k25, hlt, hlt2, hl, hnu, onW_t, onW_f, onV_s]; first | ((first | refine hA _ _ _ ?_ ?_ | refine hA _ _ _ ?_ (by first | exact .inl rfl | exact .inr (by decide)) ?_); (focus (simp [k0, k2, k5, k7, k23, k24, k25, hlt, hlt2, hl, hnu] <;> omega)); clear hA hB A B) | (refine hB ?_; clear hA hB A B) | (refine onV_if ?_ ?_; (focus (first | omega | (refine ⟨?_, ?_⟩ <;> omega))); simp only [onV_s]; (first | refine hA _ _ _ ?_ ?_ | refine hA _ _ _ ?_ (by first | exact .inl rfl | exact .inr (by decide)) ?_); (focus (simp [k0, k2, k5, k7, k23, k24, k25, hlt, hlt2, hl, hnu] <;> omega)); clear hA hB A B))
        | (refine RQ.nl ?_; refine hk _ _ ?_; clear hk k)
        | refine WP.sr fun k hk => ?_ | refine WP.r fun k hk => ?_
        | refine WP.sd _ rfl fun k hk => ?_ | refine WP.d _ rfl fun k hk => ?_
        | (refine WP.cc fun A B hA hB => ?_; simp [k0, k2, k5, k7, k23, k24, k25, hlt, hlt2, hl, hnu, onB_t, onB_f]; first | (refine hA ?_; clear hA hB A B) | (refine hB ?_; clear hA hB A B) | (refine onB_if (fun h => hA ?_) (fun h => hB ?_) <;> clear hA hB A B))
        | refine WP.q ?_ | refine WP.b ?_)
      exact ⟨.inr rfl, .tup [.nsl, .int .i64 0], by simp, frz_tup2 .nil (.same _ (.int _ _))⟩
    | true =>
      simp only [numsV, ha] at hnu
      simp only [if_true] at hnu
      generalize hs3 : (s'.push (.var 44 [.nsl])).put s'.nx (.var 44 [.sl (nums (idxs tab vals))]) = s3
      have hn3 : s3.nx = s'.nx + 1 := by rw [← hs3]; simp
      have hf3 : ∀ j, j < s'.nx → s3.get j = s'.get j := fun j hj => by
        have n1 : ¬ j = s'.nx := by omega
        rw [← hs3]; simp [St.get_put, St.get_push, n1]
      have c12 : s3.get s'.nx = some (.var 44 [.sl (nums (idxs tab vals))]) := by rw [← hs3]; simp [St.get_put]
      have hD3 := h.keep (s1 := s3) (by omega) fun j hj => by have := (h.own j hj).1; rw [hf3 j (by omega), hf' j this]
      have hsm := X7_some (K := K) (gw := gw) hK hT hD3 hR 39 [] [.ptr s.nx 0, .ptr s'.nx 0, .ptr (s.nx + 1) 0] (matQ (cols.map Int.toNat) vals only) fun r hr s2 hn2 hf2 => by
        have h3 := h.ok.row r hr
        have e := X6_mat (K := K) (gw := gw) (s := s2) hK hT (r.1.map V.cs) r.2 (idxs tab r.1) s.nx s'.nx (s.nx + 1) (cols.map Int.toNat) (idxs tab vals) only (by omega) (by omega) (by omega)
          (by rw [hf2 _ (by omega), hf3 _ (by omega), c5, hcn]) (by rw [hf2 _ (by omega)]; exact c12) (by rw [hf2 _ (by omega), hf3 _ (by omega)]; exact c7) (by simp [idxs, hl]) (fun c hc => by
            obtain ⟨c', hc', rfl⟩ := List.mem_map.1 hc
            have := List.all_eq_true.1 hok c' hc'
            simp at this
            simp only [idxs, List.length_map]
            omega) (by simpa using hcl)
        have e1 : ((r.2 : Int) == 1) = (r.2 == 1) := by rw [Bool.eq_iff_iff, beq_iff_eq, beq_iff_eq]; omega
        have e2 : ((r.2 : Int) == 2) = (r.2 == 2) := by rw [Bool.eq_iff_iff, beq_iff_eq, beq_iff_eq]; omega
        rw [mN_mV h3.2.1 h3.2.2.1 _ _ ha, e1, e2] at e
        exact e
      repeat' (first
        | refine WP.t ?_ | refine WP.k ?_ | refine WP.e ?_ | refine Qn ?_ | refine Qr ?_ | refine Qe ?_ | refine Bn ?_ | refine Br ?_ | refine Be ?_ | refine Bx (by decide) ?_
        | (refine RS.nl ?_; refine hk _ _ ?_; clear hk k)
        | ((first | refine RS.st fun A B hA hB => ?_ | refine RQ.st fun A B hA hB => ?_); simp [k0, k2, k5, k7, k23, k24, k25, hlt, hlt2, hl, hnu, hs3, hsm, hn3, onW_t, onW_f, onV_s]; first | ((first | refine hA _ _ _ ?_ ?_ | refine hA _ _ _ ?_ (by first | exact .inl rfl | exact .inr (by decide)) ?_); (focus (simp [k0, k2, k5, k7, k23, k24, k25, hlt, hlt2, hl, hnu, hs3, hsm, hn3] <;> omega)); clear hA hB A B) | (refine hB ?_; clear hA hB A B) | (refine onV_if ?_ ?_; (focus (first | omega | (refine ⟨?_, ?_⟩ <;> omega))); simp only [onV_s]; (first | refine hA _ _ _ ?_ ?_ | refine hA _ _ _ ?_ (by first | exact .inl rfl | exact .inr (by decide)) ?_); (focus (simp [k0, k2, k5, k7, k23, k24, k25, hlt, hlt2, hl, hnu, hs3, hsm, hn3] <;> omega)); clear hA hB A B))
        | (refine RQ.nl ?_; refine hk _ _ ?_; clear hk k)
        | refine WP.sr fun k hk => ?_ | refine WP.r fun k hk => ?_
        | refine WP.sd _ rfl fun k hk => ?_ | refine WP.d _ rfl fun k hk => ?_
        | (refine WP.cc fun A B hA hB => ?_; simp [k0, k2, k5, k7, k23, k24, k25, hlt, hlt2, hl, hnu, hs3, hsm, hn3, onB_t, onB_f]; first | (refine hA ?_; clear hA hB A B) | (refine hB ?_; clear hA hB A B) | (refine onB_if (fun h => hA ?_) (fun h => hB ?_) <;> clear hA hB A B))
        | refine WP.q ?_ | refine WP.b ?_)
      exact ⟨.inr rfl, .tup [.sl (encD (srt (Sel (matQ (cols.map Int.toNat) vals only) R))), .int .i64 0], by simp, frz_tup2 (.same _ (below_sl.2 (below_esD _ _))) (.same _ (.int _ _))⟩
/-! ### a new one -/
theorem OBelow_num' (n : Nat) : OBelow n (.map []) := .map _ fun i x hx => by simp at hx
theorem ft_RNew0 (n : Int) (h : n < 0 ∨ 6 < n) : FT (env K gw) NoW 11 [.int .i64 n] s .np s := by
  refine FT.pure (fn := Tryd.f11) F0_ok mixed Tryd.func11 (by kernel_rfl) (by rfl) rfl rfl (by simp) rfl fun μ w => ?_
  by_cases h0 : n < 0
  · skip
    repeat' (first
      | refine WP.t ?_ | refine WP.k ?_ | refine WP.e ?_ | refine Qn ?_ | refine Qr ?_ | refine Qe ?_ | refine Bn ?_ | refine Br ?_ | refine Be ?_ | refine Bx (by decide) ?_
      | (refine RS.nl ?_; refine hk _ _ ?_; clear hk k)
      | ((first | refine RS.st fun A B hA hB => ?_ | refine RQ.st fun A B hA hB => ?_); simp [h0, onW_t, onW_f, onV_s]; first | ((first | refine hA _ _ _ ?_ ?_ | refine hA _ _ _ ?_ (by first | exact .inl rfl | exact .inr (by decide)) ?_); (focus (simp [h0] <;> omega)); clear hA hB A B) | (refine hB ?_; clear hA hB A B) | (refine onV_if ?_ ?_; (focus (first | omega | (refine ⟨?_, ?_⟩ <;> omega))); simp only [onV_s]; (first | refine hA _ _ _ ?_ ?_ | refine hA _ _ _ ?_ (by first | exact .inl rfl | exact .inr (by decide)) ?_); (focus (simp [h0] <;> omega)); clear hA hB A B))
      | (refine RQ.nl ?_; refine hk _ _ ?_; clear hk k)
      | refine WP.sr fun k hk => ?_ | refine WP.r fun k hk => ?_
      | refine WP.sd _ rfl fun k hk => ?_ | refine WP.d _ rfl fun k hk => ?_
      | (refine WP.cc fun A B hA hB => ?_; simp [h0, onB_t, onB_f]; first | (refine hA ?_; clear hA hB A B) | (refine hB ?_; clear hA hB A B) | (refine onB_if (fun h => hA ?_) (fun h => hB ?_) <;> clear hA hB A B))
      | refine WP.q ?_ | refine WP.b ?_)
    simp
  · have h1 : 6 < n := by omega
    repeat' (first
      | refine WP.t ?_ | refine WP.k ?_ | refine WP.e ?_ | refine Qn ?_ | refine Qr ?_ | refine Qe ?_ | refine Bn ?_ | refine Br ?_ | refine Be ?_ | refine Bx (by decide) ?_
      | (refine RS.nl ?_; refine hk _ _ ?_; clear hk k)
      | ((first | refine RS.st fun A B hA hB => ?_ | refine RQ.st fun A B hA hB => ?_); simp [h0, h1, onW_t, onW_f, onV_s]; first | ((first | refine hA _ _ _ ?_ ?_ | refine hA _ _ _ ?_ (by first | exact .inl rfl | exact .inr (by decide)) ?_); (focus (simp [h0, h1] <;> omega)); clear hA hB A B) | (refine hB ?_; clear hA hB A B) | (refine onV_if ?_ ?_; (focus (first | omega | (refine ⟨?_, ?_⟩ <;> omega))); simp only [onV_s]; (first | refine hA _ _ _ ?_ ?_ | refine hA _ _ _ ?_ (by first | exact .inl rfl | exact .inr (by decide)) ?_); (focus (simp [h0, h1] <;> omega)); clear hA hB A B))
      | (refine RQ.nl ?_; refine hk _ _ ?_; clear hk k)
      | refine WP.sr fun k hk => ?_ | refine WP.r fun k hk => ?_
      | refine WP.sd _ rfl fun k hk => ?_ | refine WP.d _ rfl fun k hk => ?_
      | (refine WP.cc fun A B hA hB => ?_; simp [h0, h1, onB_t, onB_f]; first | (refine hA ?_; clear hA hB A B) | (refine hB ?_; clear hA hB A B) | (refine onB_if (fun h => hA ?_) (fun h => hB ?_) <;> clear hA hB A B))
      | refine WP.q ?_ | refine WP.b ?_)
    simp
theorem ft_RNew (n : Nat) (h : n ≤ 6) : ∃ r s', FT (env K gw) (fun i => i ∈ ([] : List Nat)) 11 [.int .i64 n] s r s' ∧ Eff [] s s' ∧ Below s'.nx r ∧
    (∃ rid l, r = .ptr rid 0 ∧ RelP s' l rid n [] ∧ ∀ i ∈ l, s.nx ≤ i ∧ i < s'.nx) := by
  have hok : FOk (env K gw) (F0.add 30 fun xs s => match xs with
    | [] => some (.ptr (s.nx + 1) 0, stNew s, [])
    | _ => none) := by
    refine F0_ok.add fun xs s r s' l h => ?_
    split at h
    · cases h; exact ft_New.wider fun i h => h.elim
    · cases h
  refine FT.eff (fn := Tryd.f11) gw hok mixed Tryd.func11 (by kernel_rfl) (by rfl) rfl rfl (by simp) rfl fun μ w => ?_
  have h0 : ¬ (n : Int) < 0 := by omega
  have h1 : ¬ 6 < (n : Int) := by omega
  repeat' (first
    | refine WP.t ?_ | refine WP.k ?_ | refine WP.e ?_ | refine Qn ?_ | refine Qr ?_ | refine Qe ?_ | refine Bn ?_ | refine Br ?_ | refine Be ?_ | refine Bx (by decide) ?_
    | (refine RS.nl ?_; refine hk _ _ ?_; clear hk k)
    | ((first | refine RS.st fun A B hA hB => ?_ | refine RQ.st fun A B hA hB => ?_); simp [h0, h1, stNew, amake0, onW_t, onW_f, onV_s]; first | ((first | refine hA _ _ _ ?_ ?_ | refine hA _ _ _ ?_ (by first | exact .inl rfl | exact .inr (by decide)) ?_); (focus (simp [h0, h1, stNew, amake0] <;> omega)); clear hA hB A B) | (refine hB ?_; clear hA hB A B) | (refine onV_if ?_ ?_; (focus (first | omega | (refine ⟨?_, ?_⟩ <;> omega))); simp only [onV_s]; (first | refine hA _ _ _ ?_ ?_ | refine hA _ _ _ ?_ (by first | exact .inl rfl | exact .inr (by decide)) ?_); (focus (simp [h0, h1, stNew, amake0] <;> omega)); clear hA hB A B))
    | (refine RQ.nl ?_; refine hk _ _ ?_; clear hk k)
    | refine WP.sr fun k hk => ?_ | refine WP.r fun k hk => ?_
    | refine WP.sd _ rfl fun k hk => ?_ | refine WP.d _ rfl fun k hk => ?_
    | (refine WP.cc fun A B hA hB => ?_; simp [h0, h1, stNew, amake0, onB_t, onB_f]; first | (refine hA ?_; clear hA hB A B) | (refine hB ?_; clear hA hB A B) | (refine onB_if (fun h => hA ?_) (fun h => hB ?_) <;> clear hA hB A B))
    | refine WP.q ?_ | refine WP.b ?_)
  have hE : Eff [] s ((((s.push (.map [])).push (.var 89 [.map s.nx, .nsl])).push (.map [])).push (relO (s.nx + 1) n .nsl (s.nx + 2))) := by
    refine Eff.push (Eff.push (Eff.push (Eff.push Eff.nil ?_) ?_) ?_) ?_
    · exact OBelow_num' _
    · refine OBelow_var fun x hx => ?_
      simp only [List.mem_cons, List.mem_nil_iff, or_false] at hx
      rcases hx with rfl | rfl
      · exact .map _ (by simp)
      · exact .nsl
    · exact OBelow_num' _
    · exact OBelow_rel (by simp) (by simp) .nsl
  refine ⟨.inr rfl, ⟨.ptr (s.nx + 3) 0, by simp, by simp, s.nx + 3, [s.nx + 3, s.nx + 2, s.nx + 1, s.nx], rfl, ⟨[s.nx + 1, s.nx], s.nx + 1, s.nx + 2, [], .nsl, ?_⟩, fun i hi => ?_⟩, hE⟩
  · refine ⟨?_, fun i hi => ?_, by simp, by simp, by simp, by simp, by omega, ?_, by simp [St.get_push, relO], by simp [St.get_push, atL], .inl ⟨rfl, rfl⟩, ⟨h, by simp, by simp, by simp⟩⟩
    · exact tab_New.keep (by simp [stNew]) fun i hi => by
        simp at hi
        rcases hi with rfl | rfl <;> simp [St.get_push, stNew]
    · simp at hi ⊢; omega
    · refine Own.eff hE (l2 := []) Own.nil (fun i hi => ?_) (fun i hi => by cases hi)
      simp at hi ⊢
      omega
  · simp at hi ⊢; omega
end
end Go.Am
namespace Go.Am
open Go.Proofs
theorem Tab.min {s : St} {l : List Nat} {tid : Nat} {vs : List V} (h : Tab s l tid vs) : ∃ l0, Tab s l0 tid vs ∧ ∀ l2 vs2, Tab s l2 tid vs2 → ∀ i ∈ l0, i ∈ l2 := by
  obtain ⟨mid, h1, h2, h3, h4, h5, h6⟩ := h
  have q1 := h4 _ h1
  have q2 := h4 _ h2
  rcases h6 with ⟨hv, b⟩ | ⟨hv, rd, c1, c2, c3, b, d⟩
  · refine ⟨[tid, mid], ⟨mid, by simp, by simp, h3, by simp; omega, h5, .inl ⟨hv, b⟩⟩, fun l2 vs2 k i hi => ?_⟩
    obtain ⟨mid', k1, k2, k3, k4, k5, k6⟩ := k
    have e : mid' = mid := by
      rcases k6 with ⟨_, g⟩ | ⟨_, rd, _, _, _, g, _⟩
      · rw [b] at g; simp at g; exact g.symm
      · rw [b] at g; simp at g
    subst e
    simp at hi
    rcases hi with rfl | rfl
    · exact k1
    · exact k2
  · have q3 := h4 _ c1
    refine ⟨[tid, mid, rd], ⟨mid, by simp, by simp, h3, by simp; omega, h5, .inr ⟨hv, rd, by simp, c2, c3, b, d⟩⟩, fun l2 vs2 k i hi => ?_⟩
    obtain ⟨mid', k1, k2, k3, k4, k5, k6⟩ := k
    rcases k6 with ⟨_, g⟩ | ⟨_, rd', k7, _, _, g, _⟩
    · rw [b] at g; simp at g
    · rw [b] at g
      simp at g
      obtain ⟨rfl, rfl, _⟩ := g
      simp at hi
      rcases hi with rfl | rfl | rfl
      · exact k1
      · exact k2
      · exact k7
theorem RelD.min {s : St} {l lt : List Nat} {rid tid atid ar : Nat} {tab : List V} {R : List (List V × Nat)} {rw : AV} (h : RelD s l lt rid tid atid ar tab R rw) :
    ∃ l0 lt0, RelD s l0 lt0 rid tid atid ar tab R rw ∧ ∀ l2 lt2 tid2 atid2 ar2 tab2 R2 rw2, RelD s l2 lt2 rid tid2 atid2 ar2 tab2 R2 rw2 → ∀ i ∈ l0, i ∈ l2 := by
  obtain ⟨lt0, ht0, hm⟩ := h.ht.min
  have hsub : ∀ i ∈ lt0, i ∈ lt := hm lt tab h.ht
  rcases h.rows with ⟨hR, hrw⟩ | ⟨hne, rd, d1, d2, d3, d4, hrw, hrd⟩
  · refine ⟨rid :: atid :: lt0, lt0, ⟨ht0, fun i hi => by simp [hi], by simp, by simp, fun hi => h.nr (hsub _ hi), fun hi => h.na (hsub _ hi), h.ra, h.own.sub fun i hi => ?_, h.g, h.a, .inl ⟨hR, hrw⟩, h.ok⟩, fun l2 lt2 tid2 atid2 ar2 tab2 R2 rw2 k i hi => ?_⟩
    · simp only [List.mem_cons] at hi
      rcases hi with rfl | rfl | hi
      · exact h.hr
      · exact h.hat
      · exact h.sub _ (hsub _ hi)
    · obtain ⟨rfl, rfl, _⟩ := h.det k
      simp only [List.mem_cons] at hi
      rcases hi with rfl | rfl | hi
      · exact k.hr
      · exact k.hat
      · exact k.sub _ (hm _ _ k.ht i hi)
  · refine ⟨rid :: atid :: rd :: lt0, lt0, ⟨ht0, fun i hi => by simp [hi], by simp, by simp, fun hi => h.nr (hsub _ hi), fun hi => h.na (hsub _ hi), h.ra, h.own.sub fun i hi => ?_, h.g, h.a, .inr ⟨hne, rd, by simp, fun hi => d2 (hsub _ hi), d3, d4, hrw, hrd⟩, h.ok⟩, fun l2 lt2 tid2 atid2 ar2 tab2 R2 rw2 k i hi => ?_⟩
    · simp only [List.mem_cons] at hi
      rcases hi with rfl | rfl | rfl | hi
      · exact h.hr
      · exact h.hat
      · exact d1
      · exact h.sub _ (hsub _ hi)
    · obtain ⟨rfl, rfl, _, _, _, rfl⟩ := h.det k
      simp only [List.mem_cons] at hi
      rcases hi with rfl | rfl | rfl | hi
      · exact k.hr
      · exact k.hat
      · rcases k.rows with ⟨_, h5⟩ | ⟨_, rd2, h6, _, _, _, h5, _⟩
        · rw [hrw] at h5; cases h5
        · rw [hrw] at h5
          simp only [AV.ls.injEq] at h5
          rw [h5.1]; exact h6
      · exact k.sub _ (hm _ _ k.ht i hi)
theorem RelP.det {s : St} {l l2 : List Nat} {rid ar ar2 : Nat} {R R2 : List (List V × Nat)} (h : RelP s l rid ar R) (k : RelP s l2 rid ar2 R2) : ar2 = ar ∧ R2 = R := by
  obtain ⟨_, _, _, _, _, h⟩ := h
  obtain ⟨_, _, _, _, _, k⟩ := k
  obtain ⟨_, _, h1, _, h2, _⟩ := h.det k
  exact ⟨h1, h2⟩
theorem RelP.own {s : St} {l : List Nat} {rid ar : Nat} {R : List (List V × Nat)} (h : RelP s l rid ar R) : Own s l := by
  obtain ⟨_, _, _, _, _, h⟩ := h
  exact h.own
theorem RelP.mem {s : St} {l : List Nat} {rid ar : Nat} {R : List (List V × Nat)} (h : RelP s l rid ar R) : rid ∈ l := by
  obtain ⟨_, _, _, _, _, h⟩ := h
  exact h.hr
theorem RelP.keep {s s1 : St} {l : List Nat} {rid ar : Nat} {R : List (List V × Nat)} (h : RelP s l rid ar R) (hn : s.nx ≤ s1.nx) (hg : ∀ i ∈ l, s1.get i = s.get i) : RelP s1 l rid ar R := by
  obtain ⟨a, b, c, d, e, h⟩ := h
  exact ⟨a, b, c, d, e, h.keep hn hg⟩
theorem RelP.ok {s : St} {l : List Nat} {rid ar : Nat} {R : List (List V × Nat)} (h : RelP s l rid ar R) : ar ≤ 6 ∧ (∀ r ∈ R, r.1.length = ar ∧ r.1.map bareV = r.1 ∧ r.2 ≤ 2) ∧ (R.map (·.1)).Nodup := by
  obtain ⟨a, b, c, d, e, h⟩ := h
  exact ⟨h.ok.arle, fun r hr => ⟨(h.ok.row r hr).1, (h.ok.row r hr).2.2⟩, h.ok.nd⟩
def addOk (ar : Nat) (R : List (List V × Nat)) (t : List V) : Bool := decide (t.length = ar) && !hasR R t
def addR (ar : Nat) (R : List (List V × Nat)) (t : List V) : List (List V × Nat) := if addOk ar R t then R ++ [(t.map bareV, 0)] else R
def addV (ar : Nat) (R : List (List V × Nat)) (t : List V) : AV := .tup [.bool (addOk ar R t), .int .i64 (if t.length = ar then 0 else 1)]
/-! ### what the functions of a relation do, as one table -/
def newQ : List AV → St → AV → St → List Nat → Prop := fun xs s r s' ids => ∀ n : Nat, xs = [.int .i64 n] → n ≤ 6 → ids = [] ∧ Eff [] s s' ∧ ∃ rid l, r = .ptr rid 0 ∧ RelP s' l rid n [] ∧ ∀ i ∈ l, s.nx ≤ i ∧ i < s'.nx
def addQ : List AV → St → AV → St → List Nat → Prop := fun xs s r s' ids => ∀ rid t, xs = [.ptr rid 0, .sl (t.map V.cs)] → ∀ l ar R, RelP s l rid ar R →
  (∀ i ∈ ids, i ∈ l) ∧ Eff l s s' ∧ r = addV ar R t ∧ ∃ l', RelP s' l' rid ar (addR ar R t) ∧ ∀ i ∈ l', i ∈ l ∨ (s.nx ≤ i ∧ i < s'.nx)
def turnQ : List AV → St → AV → St → List Nat → Prop := fun xs s r s' ids => ∀ rid, xs = [.ptr rid 0] → ∀ l ar R, RelP s l rid ar R →
  (∀ i ∈ ids, i ∈ l) ∧ Eff l s s' ∧ r = .bool ((R.map tr).any isDelta) ∧ ∃ l', RelP s' l' rid ar (R.map tr) ∧ ∀ i ∈ l', i ∈ l ∨ (s.nx ≤ i ∧ i < s'.nx)
def hasQ : List AV → St → AV → St → List Nat → Prop := fun xs s r s' ids => ∀ rid t, xs = [.ptr rid 0, .sl (t.map V.cs)] → ∀ l ar R, RelP s l rid ar R → r = .bool (decide (t.length = ar) && hasR R t) ∧ s' = s ∧ ids = []
def lenQ : List AV → St → AV → St → List Nat → Prop := fun xs s r s' ids => ∀ rid, xs = [.ptr rid 0] → ∀ l ar R, RelP s l rid ar R → r = .int .i64 (R.length : Int) ∧ s' = s ∧ ids = []
def allQ (p : List V × Nat → Bool) : List AV → St → AV → St → List Nat → Prop := fun xs s r s' ids => ∀ rid, xs = [.ptr rid 0] → ∀ l ar R, RelP s l rid ar R → r = .sl (encD (srt (Sel p R))) ∧ s' = s ∧ ids = []
/-- A slice of data, or the nil one. -/
def slOr (x : AV) (es : List (List AV)) : Prop := x = .sl es ∨ (x = .nsl ∧ es = [])
theorem slOr.vr {μ : Mu} {w : World} {s : St} {x : AV} {es : List (List AV)} {v : Value} (h : slOr x es) (k : VR μ s w x v) : VR μ s w (.sl es) v := by
  rcases h with rfl | ⟨rfl, rfl⟩
  · exact k
  · cases k; exact .slnil _
def matchQ : List AV → St → AV → St → List Nat → Prop := fun xs s r s' ids => ∀ rid cols vals only x y, xs = [.ptr rid 0, x, y, .bool only] → slOr x (ints cols) → slOr y (vals.map V.cs) → ∀ l ar R, RelP s l rid ar R → r = matchV ar R cols vals only ∧ s' = s ∧ ids = []
theorem ints_inj : ∀ {t u : List Int}, ints t = ints u → t = u
  | [], [], _ => rfl
  | [], u :: us, h => by simp [ints] at h
  | v :: t, [], h => by simp [ints] at h
  | v :: t, u :: us, h => by
    simp only [ints, List.map_cons, List.cons.injEq, AV.int.injEq, true_and, and_true] at h
    rw [h.1, ints_inj (t := t) (u := us) h.2]
section
variable {K : Nat} {gw : World} {s : St}
attribute [local simp] awanted xop zOf zrow aop ev T0 Slots.put Slots.set Slots.get awr WOk AV.may ofConst abinop aint isConst St.get_push St.get_put St.live AV.fit AV.cells AV.one fieldOf afieldAddr aload ofCells astore splice May eqres env_ti FinP FinZ FinW ares aresL ares1 Fns.addP Fns.add Fns.a0 Fns.a1 Fns.a2 Fns.a3 Fns.a4 abuiltin alenOk alen aindex elemOfT elemId abuildSlice afill chunks ard aappend isSS AV.isStr aminmax placesOf abuild afield aidx isStrD isStrDesc astrop aslice asliceOk abound arange anext aextract aunop aeq AV.ck avseq aveq aconv aconvert onB_t onB_f List.range_succ ti0 ti1 ti2 ti3 ti4 ti5 ti6 ti7 ti8 ti9 ti10 ti11 ti12 ti13 ti14 ti15 ti16 ti17 ti18 ti19 ti20 ti21 ti22 ti23 ti24 ti25 ti26 ti27 ti28 ti29 ti30 ti31 ti32 ti33 ti34 ti35 ti36 ti37 ti38 ti39 ti40 ti41 ti42 ti43 ti44 ti45 ti46 ti47 ti48 ti49 ti50 ti51 ti52 ti53 ti54 ti55 ti56 ti57 ti58 ti59 ti60 ti61 ti62 ti63 ti64 ti65 ti66 ti67 ti68 ti69 ti70 ti71 ti72 ti73 ti74 ti75 ti76 ti77 ti78 ti79 ti80 ti81 ti82 ti83 ti84 ti85 ti86 ti87 ti88 ti89 ti90 ti91 ti92 ti93 ti94 ti95 ti96 ti97 ti98 ti99 ti100 ti101 ti102 ti103 ti104 ti105 ti106 ti107 ti108 ti109 ti110 ti111 ti112 ti113 ti114 ti115 ti116 ti117 ti118 ti119 ti120 ti121 ti122 ti123 ti124 ti125 ti126 ti127 ti128 ti129 ti130 ti131 ti132 ti133 ti134 ti135 ti136 ti137 ti138 ti139 ti140 ti141 ti142 ti143 ti144 ti145 ti146 ti147
noncomputable def Z (K : Nat) (gw : World) (F : Fns) : Fns := (((((((F.ch (env K gw) 11 newQ).ch (env K gw) 12 addQ).ch (env K gw) 18 turnQ).ch (env K gw) 17 hasQ).ch (env K gw) 13 lenQ).ch (env K gw) 15 (allQ fun _ => true)).ch (env K gw) 28 (allQ isDelta)).ch (env K gw) 19 matchQ
theorem Z_ok {F : Fns} (hF : FOk (env K gw) F) : FOk (env K gw) (Z K gw F) := (((((((hF.ch).ch).ch).ch).ch).ch).ch).ch
theorem Z_base {F : Fns} {f : FuncId} {xs : List AV} (h : f ∉ [19, 28, 15, 13, 17, 18, 12, 11]) : Z K gw F f xs s = F f xs s := by
  simp only [List.mem_cons, List.mem_nil_iff, or_false, not_or] at h
  obtain ⟨h1, h2, h3, h4, h5, h6, h7, h8⟩ := h
  unfold Z
  rw [Fns.ch_other h1, Fns.ch_other h2, Fns.ch_other h3, Fns.ch_other h4, Fns.ch_other h5, Fns.ch_other h6, Fns.ch_other h7, Fns.ch_other h8]
theorem Z_new {F : Fns} (n : Nat) (h : n ≤ 6) : ∃ s' rid l, Z K gw F 11 [.int .i64 n] s = some (.ptr rid 0, s', []) ∧ Eff [] s s' ∧ RelP s' l rid n [] ∧ ∀ i ∈ l, s.nx ≤ i ∧ i < s'.nx := by
  obtain ⟨r, s', h1, h2, _, h3⟩ := ft_RNew (K := K) (gw := gw) (s := s) n h
  have hp : newQ [.int .i64 n] s r s' [] := by
    intro m he hm
    simp only [List.cons.injEq, AV.int.injEq, and_true, true_and] at he
    have : m = n := by omega
    subst this
    exact ⟨rfl, h2, h3⟩
  obtain ⟨r, s', l, h5, h6⟩ := Fns.ch_some (P := newQ) (F := F) h1 hp
  obtain ⟨rfl, h7, rid, l, rfl, h8, h9⟩ := h6 n rfl h
  refine ⟨s', rid, l, ?_, h7, h8, h9⟩
  unfold Z
  rw [Fns.ch_other (by decide), Fns.ch_other (by decide), Fns.ch_other (by decide), Fns.ch_other (by decide), Fns.ch_other (by decide), Fns.ch_other (by decide), Fns.ch_other (by decide)]
  exact h5
theorem Z_add {F : Fns} (hK : 0 < K) (hT : Tens gw) {l : List Nat} {rid ar : Nat} {R : List (List V × Nat)} (h : RelP s l rid ar R) (t : List V) (hR : R.length < 16777216) :
    ∃ s' ids, Z K gw F 12 [.ptr rid 0, .sl (t.map V.cs)] s = some (addV ar R t, s', ids) ∧ (∀ i ∈ ids, i ∈ l) ∧ Eff l s s' ∧ ∃ l', RelP s' l' rid ar (addR ar R t) ∧ ∀ i ∈ l', i ∈ l ∨ (s.nx ≤ i ∧ i < s'.nx) := by
  have h0 := h
  obtain ⟨lt, tid, atid, tab, rw, h1⟩ := h
  have key : ∃ r s' ids, FT (env K gw) (fun i => i ∈ ids) 12 [.ptr rid 0, .sl (t.map V.cs)] s r s' ∧ addQ [.ptr rid 0, .sl (t.map V.cs)] s r s' ids := by
    have wrap : ∀ r s' ids, (∀ l, RelP s l rid ar R → (∀ i ∈ ids, i ∈ l) ∧ Eff l s s' ∧ r = addV ar R t ∧ ∃ l', RelP s' l' rid ar (addR ar R t) ∧ ∀ i ∈ l', i ∈ l ∨ (s.nx ≤ i ∧ i < s'.nx)) → addQ [.ptr rid 0, .sl (t.map V.cs)] s r s' ids := by
      intro r s' ids hk rid' t' he l2 ar2 R2 h2
      simp only [List.cons.injEq, AV.ptr.injEq, AV.sl.injEq, and_true] at he
      obtain ⟨rfl, he⟩ := he
      obtain rfl := map_cs_inj he
      obtain ⟨rfl, rfl⟩ := h0.det h2
      exact hk l2 h2
    by_cases hl : t.length = ar
    · cases hh : hasR R t with
      | true =>
        have ha : addOk ar R t = false := by simp [addOk, hh]
        refine ⟨_, _, [], (ft_AddH (K := K) (gw := gw) hK hT h1 t hl hh hR).wider (W' := fun i => i ∈ ([] : List Nat)) fun i h => h.elim, wrap _ _ _ fun l2 h2 => ⟨fun i h => (by cases h), Eff.refl h2.own, ?_, l2, ?_, fun i h => .inl h⟩⟩
        · simp [addV, ha, hl]
        · rw [addR, ha]; simpa using h2
      | false =>
        have ha : addOk ar R t = true := by simp [addOk, hh, hl]
        obtain ⟨l0, lt0, hm1, hm2⟩ := h1.min
        obtain ⟨r, s', k1, k2, k3, rfl, l', k4, k5⟩ := ft_AddN (K := K) (gw := gw) hK hT hm1 t hl hh hR
        refine ⟨_, s', l0, k1, wrap _ _ _ fun l2 h2 => ?_⟩
        have hsub : ∀ i ∈ l0, i ∈ l2 := by
          obtain ⟨a, b, c, d, e, h2⟩ := h2
          exact hm2 _ _ _ _ _ _ _ _ h2
        refine ⟨hsub, k2.mono h2.own hsub, ?_, l', ?_, fun i hi => (k5 i hi).imp (hsub i) fun h => h⟩
        · simp [addV, ha, hl]
        · rw [addR, ha]; simpa using k4
    · have ha : addOk ar R t = false := by simp [addOk, hl]
      refine ⟨_, _, [], (ft_AddL (K := K) (gw := gw) hK hT h1 t hl).wider (W' := fun i => i ∈ ([] : List Nat)) fun i h => h.elim, wrap _ _ _ fun l2 h2 => ⟨fun i h => (by cases h), Eff.refl h2.own, ?_, l2, ?_, fun i h => .inl h⟩⟩
      · simp [addV, ha, hl]
      · rw [addR, ha]; simpa using h2
  obtain ⟨r, s', ids, k1, k2⟩ := key
  obtain ⟨r, s', ids, h5, h6⟩ := Fns.ch_some (P := addQ) (F := F.ch (env K gw) 11 newQ) k1 k2
  obtain ⟨h7, h8, rfl, h9⟩ := h6 rid t rfl l ar R h0
  refine ⟨s', ids, ?_, h7, h8, h9⟩
  unfold Z
  rw [Fns.ch_other (by decide), Fns.ch_other (by decide), Fns.ch_other (by decide), Fns.ch_other (by decide), Fns.ch_other (by decide), Fns.ch_other (by decide)]
  exact h5
theorem Z_turn {F : Fns} (hK : 0 < K) (hT : Tens gw) {l : List Nat} {rid ar : Nat} {R : List (List V × Nat)} (h : RelP s l rid ar R) (hR : R.length < 16777216) :
    ∃ s' ids, Z K gw F 18 [.ptr rid 0] s = some (.bool ((R.map tr).any isDelta), s', ids) ∧ (∀ i ∈ ids, i ∈ l) ∧ Eff l s s' ∧ ∃ l', RelP s' l' rid ar (R.map tr) ∧ ∀ i ∈ l', i ∈ l ∨ (s.nx ≤ i ∧ i < s'.nx) := by
  have h0 := h
  obtain ⟨lt, tid, atid, tab, rw, h1⟩ := h
  obtain ⟨l0, lt0, hm1, hm2⟩ := h1.min
  obtain ⟨r, s', k1, k2, k3, rfl, l', k4, k5⟩ := ft_Turn (K := K) (gw := gw) hK hT hm1 hR
  have hq : turnQ [.ptr rid 0] s (.bool ((R.map tr).any isDelta)) s' l0 := by
    intro rid' he l2 ar2 R2 h2
    simp only [List.cons.injEq, AV.ptr.injEq, and_true] at he
    subst he
    obtain ⟨rfl, rfl⟩ := h0.det h2
    have hsub : ∀ i ∈ l0, i ∈ l2 := by
      obtain ⟨a, b, c, d, e, h2⟩ := h2
      exact hm2 _ _ _ _ _ _ _ _ h2
    exact ⟨hsub, k2.mono h2.own hsub, rfl, l', k4, fun i hi => (k5 i hi).imp (hsub i) fun h => h⟩
  obtain ⟨r, s', ids, h5, h6⟩ := Fns.ch_some (P := turnQ) (F := (F.ch (env K gw) 11 newQ).ch (env K gw) 12 addQ) k1 hq
  obtain ⟨h7, h8, rfl, h9⟩ := h6 rid rfl l ar R h0
  refine ⟨s', ids, ?_, h7, h8, h9⟩
  unfold Z
  rw [Fns.ch_other (by decide), Fns.ch_other (by decide), Fns.ch_other (by decide), Fns.ch_other (by decide), Fns.ch_other (by decide)]
  exact h5
theorem Z_has {F : Fns} (hK : 0 < K) (hT : Tens gw) {l : List Nat} {rid ar : Nat} {R : List (List V × Nat)} (h : RelP s l rid ar R) (t : List V) (hl : t.length < 1073741824) (hR : R.length < 16777216) :
    Z K gw F 17 [.ptr rid 0, .sl (t.map V.cs)] s = some (.bool (decide (t.length = ar) && hasR R t), s, []) := by
  have h0 := h
  obtain ⟨lt, tid, atid, tab, rw, h1⟩ := h
  have hq : hasQ [.ptr rid 0, .sl (t.map V.cs)] s (.bool (decide (t.length = ar) && hasR R t)) s [] := by
    intro rid' t' he l2 ar2 R2 h2
    simp only [List.cons.injEq, AV.ptr.injEq, AV.sl.injEq, and_true] at he
    obtain ⟨rfl, he⟩ := he
    obtain rfl := map_cs_inj he
    obtain ⟨rfl, rfl⟩ := h0.det h2
    exact ⟨rfl, rfl, rfl⟩
  obtain ⟨r, s', ids, h5, h6⟩ := Fns.ch_some (P := hasQ) (l := []) (F := ((F.ch (env K gw) 11 newQ).ch (env K gw) 12 addQ).ch (env K gw) 18 turnQ) ((ft_Has (K := K) (gw := gw) hK hT h1 t hl hR).wider (W' := fun i => i ∈ ([] : List Nat)) fun i h => h.elim) hq
  obtain ⟨rfl, rfl, rfl⟩ := h6 rid t rfl l ar R h0
  unfold Z
  rw [Fns.ch_other (by decide), Fns.ch_other (by decide), Fns.ch_other (by decide), Fns.ch_other (by decide)]
  exact h5
theorem Z_len {F : Fns} (hK : 0 < K) (hT : Tens gw) {l : List Nat} {rid ar : Nat} {R : List (List V × Nat)} (h : RelP s l rid ar R) :
    Z K gw F 13 [.ptr rid 0] s = some (.int .i64 (R.length : Int), s, []) := by
  have h0 := h
  obtain ⟨lt, tid, atid, tab, rw, h1⟩ := h
  have hq : lenQ [.ptr rid 0] s (.int .i64 (R.length : Int)) s [] := by
    intro rid' he l2 ar2 R2 h2
    simp only [List.cons.injEq, AV.ptr.injEq, and_true] at he
    subst he
    obtain ⟨rfl, rfl⟩ := h0.det h2
    exact ⟨rfl, rfl, rfl⟩
  obtain ⟨r, s', ids, h5, h6⟩ := Fns.ch_some (P := lenQ) (l := []) (F := (((F.ch (env K gw) 11 newQ).ch (env K gw) 12 addQ).ch (env K gw) 18 turnQ).ch (env K gw) 17 hasQ) ((ft_Len (K := K) (gw := gw) hK hT h1).wider (W' := fun i => i ∈ ([] : List Nat)) fun i h => h.elim) hq
  obtain ⟨rfl, rfl, rfl⟩ := h6 rid rfl l ar R h0
  unfold Z
  rw [Fns.ch_other (by decide), Fns.ch_other (by decide), Fns.ch_other (by decide)]
  exact h5
theorem Z_all {F : Fns} (hK : 0 < K) (hT : Tens gw) {l : List Nat} {rid ar : Nat} {R : List (List V × Nat)} (h : RelP s l rid ar R) (hR : R.length < 16777216) :
    Z K gw F 15 [.ptr rid 0] s = some (.sl (encD (srt (Sel (fun _ => true) R))), s, []) := by
  have h0 := h
  obtain ⟨lt, tid, atid, tab, rw, h1⟩ := h
  have hq : allQ (fun _ => true) [.ptr rid 0] s (.sl (encD (srt (Sel (fun _ => true) R)))) s [] := by
    intro rid' he l2 ar2 R2 h2
    simp only [List.cons.injEq, AV.ptr.injEq, and_true] at he
    subst he
    obtain ⟨rfl, rfl⟩ := h0.det h2
    exact ⟨rfl, rfl, rfl⟩
  obtain ⟨r, s', ids, h5, h6⟩ := Fns.ch_some (P := allQ (fun _ => true)) (l := []) (F := ((((F.ch (env K gw) 11 newQ).ch (env K gw) 12 addQ).ch (env K gw) 18 turnQ).ch (env K gw) 17 hasQ).ch (env K gw) 13 lenQ) ((ft_All (K := K) (gw := gw) hK hT h1 hR).wider (W' := fun i => i ∈ ([] : List Nat)) fun i h => h.elim) hq
  obtain ⟨rfl, rfl, rfl⟩ := h6 rid rfl l ar R h0
  unfold Z
  rw [Fns.ch_other (by decide), Fns.ch_other (by decide)]
  exact h5
theorem Z_delta {F : Fns} (hK : 0 < K) (hT : Tens gw) {l : List Nat} {rid ar : Nat} {R : List (List V × Nat)} (h : RelP s l rid ar R) (hR : R.length < 16777216) :
    Z K gw F 28 [.ptr rid 0] s = some (.sl (encD (srt (Sel isDelta R))), s, []) := by
  have h0 := h
  obtain ⟨lt, tid, atid, tab, rw, h1⟩ := h
  have hq : allQ isDelta [.ptr rid 0] s (.sl (encD (srt (Sel isDelta R)))) s [] := by
    intro rid' he l2 ar2 R2 h2
    simp only [List.cons.injEq, AV.ptr.injEq, and_true] at he
    subst he
    obtain ⟨rfl, rfl⟩ := h0.det h2
    exact ⟨rfl, rfl, rfl⟩
  obtain ⟨r, s', ids, h5, h6⟩ := Fns.ch_some (P := allQ isDelta) (l := []) (F := (((((F.ch (env K gw) 11 newQ).ch (env K gw) 12 addQ).ch (env K gw) 18 turnQ).ch (env K gw) 17 hasQ).ch (env K gw) 13 lenQ).ch (env K gw) 15 (allQ fun _ => true)) ((ft_Delta (K := K) (gw := gw) hK hT h1 hR).wider (W' := fun i => i ∈ ([] : List Nat)) fun i h => h.elim) hq
  obtain ⟨rfl, rfl, rfl⟩ := h6 rid rfl l ar R h0
  unfold Z
  rw [Fns.ch_other (by decide)]
  exact h5
theorem slOr.ints {x : AV} {a b : List Int} (h : slOr x (ints a)) (k : slOr x (Go.Am.ints b)) : a = b := by
  rcases h with rfl | ⟨rfl, h⟩
  · rcases k with k | ⟨k, _⟩
    · simp only [AV.sl.injEq] at k; exact ints_inj k
    · cases k
  · rcases k with k | ⟨_, k⟩
    · cases k
    · exact ints_inj (h.trans k.symm)
theorem slOr.vs {x : AV} {a b : List V} (h : slOr x (a.map V.cs)) (k : slOr x (b.map V.cs)) : a = b := by
  rcases h with rfl | ⟨rfl, h⟩
  · rcases k with k | ⟨k, _⟩
    · simp only [AV.sl.injEq] at k; exact map_cs_inj k
    · cases k
  · rcases k with k | ⟨_, k⟩
    · cases k
    · exact map_cs_inj (h.trans k.symm)
theorem Z_match {F : Fns} (hK : 0 < K) (hT : Tens gw) {l : List Nat} {rid ar : Nat} {R : List (List V × Nat)} (h : RelP s l rid ar R) (hR : R.length < 16777216) (cols : List Int) (vals : List V) (only : Bool) (hc : cols.length < 1073741824) {x y : AV} (hx : slOr x (ints cols)) (hy : slOr y (vals.map V.cs)) :
    Z K gw F 19 [.ptr rid 0, x, y, .bool only] s = some (matchV ar R cols vals only, s, []) := by
  have h0 := h
  obtain ⟨lt, tid, atid, tab, rw, h1⟩ := h
  have hq : matchQ [.ptr rid 0, x, y, .bool only] s (matchV ar R cols vals only) s [] := by
    intro rid' cols' vals' only' x' y' he hx' hy' l2 ar2 R2 h2
    simp only [List.cons.injEq, AV.ptr.injEq, AV.bool.injEq, and_true] at he
    obtain ⟨rfl, rfl, rfl, rfl⟩ := he
    obtain rfl := hx.ints hx'
    obtain rfl := hy.vs hy'
    obtain ⟨rfl, rfl⟩ := h0.det h2
    exact ⟨rfl, rfl, rfl⟩
  have hF := (ft_Match (K := K) (gw := gw) hK hT h1 hR cols vals only hc).args (xs := [.ptr rid 0, x, y, .bool only]) fun μ w vs hv => by
    obtain ⟨hn, hg⟩ := hv
    refine ⟨hn, fun i a v ha hv => ?_⟩
    match i, ha with
    | 0, ha => simp at ha; subst ha; exact hg 0 _ v rfl hv
    | 1, ha => simp at ha; subst ha; exact hx.vr (hg 1 _ v rfl hv)
    | 2, ha => simp at ha; subst ha; exact hy.vr (hg 2 _ v rfl hv)
    | 3, ha => simp at ha; subst ha; exact hg 3 _ v rfl hv
  obtain ⟨r, s', ids, h5, h6⟩ := Fns.ch_some (P := matchQ) (l := []) (F := ((((((F.ch (env K gw) 11 newQ).ch (env K gw) 12 addQ).ch (env K gw) 18 turnQ).ch (env K gw) 17 hasQ).ch (env K gw) 13 lenQ).ch (env K gw) 15 (allQ fun _ => true)).ch (env K gw) 28 (allQ isDelta)) (hF.wider (W' := fun i => i ∈ ([] : List Nat)) fun i h => h.elim) hq
  obtain ⟨rfl, rfl, rfl⟩ := h6 rid cols vals only x y rfl hx hy l ar R h0
  exact h5
end
end Go.Am
namespace Go.Am
open Go.Proofs
theorem RelP.live {s : St} {l : List Nat} {rid ar : Nat} {R : List (List V × Nat)} (h : RelP s l rid ar R) : (s.get rid).isSome = true := by
  obtain ⟨_, _, _, _, _, h⟩ := h
  rw [h.g]; rfl
theorem srt_nil : srt [] = [] := rfl
section
variable {K : Nat} {gw : World} {s : St}
attribute [local simp] awanted xop zOf zrow aop ev T0 Slots.put Slots.set Slots.get awr WOk AV.may ofConst abinop aint isConst St.get_push St.get_put St.live AV.fit AV.cells AV.one fieldOf afieldAddr aload ofCells astore splice May eqres env_ti FinP FinZ FinW ares aresL ares1 Fns.addP Fns.add Fns.a0 Fns.a1 Fns.a2 Fns.a3 Fns.a4 abuiltin alenOk alen aindex elemOfT elemId abuildSlice afill chunks ard aappend isSS AV.isStr aminmax placesOf abuild afield aidx isStrD isStrDesc astrop aslice asliceOk abound arange anext aextract aunop aeq AV.ck avseq aveq aconv aconvert onB_t onB_f List.range_succ ti0 ti1 ti2 ti3 ti4 ti5 ti6 ti7 ti8 ti9 ti10 ti11 ti12 ti13 ti14 ti15 ti16 ti17 ti18 ti19 ti20 ti21 ti22 ti23 ti24 ti25 ti26 ti27 ti28 ti29 ti30 ti31 ti32 ti33 ti34 ti35 ti36 ti37 ti38 ti39 ti40 ti41 ti42 ti43 ti44 ti45 ti46 ti47 ti48 ti49 ti50 ti51 ti52 ti53 ti54 ti55 ti56 ti57 ti58 ti59 ti60 ti61 ti62 ti63 ti64 ti65 ti66 ti67 ti68 ti69 ti70 ti71 ti72 ti73 ti74 ti75 ti76 ti77 ti78 ti79 ti80 ti81 ti82 ti83 ti84 ti85 ti86 ti87 ti88 ti89 ti90 ti91 ti92 ti93 ti94 ti95 ti96 ti97 ti98 ti99 ti100 ti101 ti102 ti103 ti104 ti105 ti106 ti107 ti108 ti109 ti110 ti111 ti112 ti113 ti114 ti115 ti116 ti117 ti118 ti119 ti120 ti121 ti122 ti123 ti124 ti125 ti126 ti127 ti128 ti129 ti130 ti131 ti132 ti133 ti134 ti135 ti136 ti137 ti138 ti139 ti140 ti141 ti142 ti143 ti144 ti145 ti146 ti147
theorem sz25 : ∀ h, (Tryd.prog.types[25]'h).size = 3 := fun _ => by kernel_rfl
def vA : V := ⟨true, [97], 0⟩
theorem ft_shown (hK : 0 < K) (hT : Tens gw) : FT (env K gw) NoW 9 [] s (.bool true) s := by
  refine FT.pure (fn := Tryd.f9) (Z_ok (F := F0) F0_ok) mixed Tryd.func9 (by kernel_rfl) (by rfl) rfl rfl (by simp) rfl fun μ w => ?_
  obtain ⟨s1, rid, l1, hnew, hE1, hR1, hl1⟩ := Z_new (K := K) (gw := gw) (F := F0) (s := s) 1 (by omega)
  have hnew' : Z K gw F0 11 [.int .i64 1] s = some (.ptr rid 0, s1, []) := hnew
  have hn1 := hE1.nx
  have hrid := hl1 rid hR1.mem
  generalize hsB : (s1.push (.row 3 (true, 25) [[.bool true, .str [97], .int .i64 0]])).drop s1.nx = sB
  have hgB : ∀ i, i < s1.nx → sB.get i = s1.get i := fun i hi => by
    have : ¬ i = s1.nx := by omega
    rw [← hsB]; simp [St.get_push, St.get_drop, this]
  have hnB : sB.nx = s1.nx + 1 := by rw [← hsB]; simp
  have hRB : RelP sB l1 rid 1 [] := hR1.keep (by omega) fun i hi => hgB i (hl1 i hi).2
  obtain ⟨s2, ids2, hadd2, hids2, hE2, l2, hR2, hl2⟩ := Z_add (K := K) (gw := gw) (F := F0) hK hT hRB [vA] (by simp)
  have hb2 : ∀ i ∈ ids2, s.nx ≤ i := fun i hi => (hl1 i (hids2 i hi)).1
  have hl2' : ∀ i ∈ l2, s.nx ≤ i := fun i hi => (hl2 i hi).elim (fun h => (hl1 i h).1) fun h => by omega
  have e2 : addR 1 [] [vA] = [([vA], 0)] := rfl
  rw [e2] at hR2
  obtain ⟨s3, ids3, hadd3, hids3, hE3, l3, hR3, hl3⟩ := Z_add (K := K) (gw := gw) (F := F0) hK hT hR2 [vA] (by simp)
  have hb3 : ∀ i ∈ ids3, s.nx ≤ i := fun i hi => hl2' i (hids3 i hi)
  have hn2 := hE2.nx
  have hl3' : ∀ i ∈ l3, s.nx ≤ i := fun i hi => (hl3 i hi).elim (fun h => hl2' i h) fun h => by omega
  have e3 : addR 1 [([vA], 0)] [vA] = [([vA], 0)] := rfl
  rw [e3] at hR3
  have hn3 := hE3.nx
  obtain ⟨s4, ids4, htu4, hids4, hE4, l4, hR4, hl4⟩ := Z_turn (K := K) (gw := gw) (F := F0) hK hT hR3 (by simp)
  have hb4 : ∀ i ∈ ids4, s.nx ≤ i := fun i hi => hl3' i (hids4 i hi)
  have hl4' : ∀ i ∈ l4, s.nx ≤ i := fun i hi => (hl4 i hi).elim (fun h => hl3' i h) fun h => by omega
  have hn4 := hE4.nx
  have e4 : List.map tr [([vA], 0)] = [([vA], 1)] := rfl
  rw [e4] at hR4 htu4
  have hd4 := Z_delta (K := K) (gw := gw) (F := F0) hK hT hR4 (by simp)
  obtain ⟨s5, ids5, htu5, hids5, hE5, l5, hR5, hl5⟩ := Z_turn (K := K) (gw := gw) (F := F0) hK hT hR4 (by simp)
  have hb5 : ∀ i ∈ ids5, s.nx ≤ i := fun i hi => hl4' i (hids5 i hi)
  have e5 : List.map tr [([vA], 1)] = [([vA], 2)] := rfl
  rw [e5] at hR5 htu5
  have hd5 := Z_delta (K := K) (gw := gw) (F := F0) hK hT hR5 (by simp)
  have ha5 := Z_all (K := K) (gw := gw) (F := F0) hK hT hR5 (by simp)
  have a2 : addV 1 [] [vA] = .tup [.bool true, .int .i64 0] := rfl
  have a3 : addV 1 [([vA], 0)] [vA] = .tup [.bool false, .int .i64 0] := rfl
  have a4 : [([vA], 1)].any isDelta = true := rfl
  have a5 : [([vA], 2)].any isDelta = false := rfl
  have a6 : encD (srt (Sel isDelta [([vA], 1)])) = [[.sl [vA.cs]]] := rfl
  have a7 : encD (srt (Sel isDelta [([vA], 2)])) = [] := rfl
  have a8 : encD (srt (Sel (fun _ => true) [([vA], 2)])) = [[.sl [vA.cs]]] := rfl
  have e9 : List.map V.cs [vA] = [[.bool true, .str [97], .int .i64 0]] := rfl
  rw [a2, e9] at hadd2
  rw [a3, e9] at hadd3
  rw [a4] at htu4
  rw [a5] at htu5
  rw [a6] at hd4
  rw [a7] at hd5
  rw [a8] at ha5
  skip
  repeat' (first
    | (refine WP.fz 2 s1.nx 3 1 (true, 25) [[.bool true, .str [97], .int .i64 0]] (by simp; done) (by simp; done) rfl (by simp; omega) ?_; rw [hsB])
    | refine WP.t ?_ | refine WP.k ?_ | refine WP.e ?_ | refine Qn ?_ | refine Qr ?_ | refine Qe ?_ | refine Bn ?_ | refine Br ?_ | refine Be ?_ | refine Bx (by decide) ?_
    | (refine RS.nl ?_; refine hk _ _ ?_; clear hk k)
    | ((first | refine RS.st fun A B hA hB => ?_ | refine RQ.st fun A B hA hB => ?_); simp [hnew', hadd2, hadd3, htu4, htu5, hd4, hd5, ha5, hb2, hb3, hb4, hb5, hsB, hR1.live, onW_t, onW_f, onV_s]; first | ((first | refine hA _ _ _ ?_ ?_ | refine hA _ _ _ ?_ (by first | exact .inl rfl | exact .inr (by decide)) ?_); (focus (simp [hnew', hadd2, hadd3, htu4, htu5, hd4, hd5, ha5, hb2, hb3, hb4, hb5, hsB, hR1.live] <;> omega)); clear hA hB A B) | (refine hB ?_; clear hA hB A B) | (refine onV_if ?_ ?_; (focus (first | omega | (refine ⟨?_, ?_⟩ <;> omega))); simp only [onV_s]; (first | refine hA _ _ _ ?_ ?_ | refine hA _ _ _ ?_ (by first | exact .inl rfl | exact .inr (by decide)) ?_); (focus (simp [hnew', hadd2, hadd3, htu4, htu5, hd4, hd5, ha5, hb2, hb3, hb4, hb5, hsB, hR1.live] <;> omega)); clear hA hB A B))
    | (refine RQ.nl ?_; refine hk _ _ ?_; clear hk k)
    | refine WP.sr fun k hk => ?_ | refine WP.r fun k hk => ?_
    | refine WP.sd _ rfl fun k hk => ?_ | refine WP.d _ rfl fun k hk => ?_
    | (refine WP.cc fun A B hA hB => ?_; simp [hnew', hadd2, hadd3, htu4, htu5, hd4, hd5, ha5, hb2, hb3, hb4, hb5, hsB, hR1.live, onB_t, onB_f]; first | (refine hA ?_; clear hA hB A B) | (refine hB ?_; clear hA hB A B) | (refine onB_if (fun h => hA ?_) (fun h => hB ?_) <;> clear hA hB A B))
    | refine WP.q ?_ | refine WP.b ?_)
  simp
/-! ### pairs -/
def pc (p : V × V) : List AV := p.1.cs ++ p.2.cs
def pairs (L : List (V × V)) : List (List AV) := L.map pc
def pr (p : V × V) : List V := [p.1, p.2]
def fillR (L : List (V × V)) : List (List V × Nat) := L.foldl (fun R p => addR 2 R (pr p)) []
theorem addR_len (ar : Nat) (R : List (List V × Nat)) (t : List V) : (addR ar R t).length ≤ R.length + 1 := by
  unfold addR; split <;> simp
theorem fillR_len' (L : List (V × V)) : ∀ R, (L.foldl (fun R p => addR 2 R (pr p)) R).length ≤ R.length + L.length := by
  induction L with
  | nil => intro R; simp
  | cons p L ih =>
    intro R
    have h1 := ih (addR 2 R (pr p))
    have h2 := addR_len 2 R (pr p)
    simp only [List.foldl_cons, List.length_cons]
    omega
theorem fillR_len (L : List (V × V)) : (fillR L).length ≤ L.length := by
  have := fillR_len' L []
  simpa [fillR] using this
theorem fillR_take {L : List (V × V)} {i : Nat} (h : i < L.length) : fillR (L.take (i + 1)) = addR 2 (fillR (L.take i)) (pr L[i]) := by
  unfold fillR
  rw [List.take_succ_eq_append_getElem h, List.foldl_append]
  rfl
set_option maxRecDepth 20000 in
theorem ft_filled (hK : 0 < K) (hT : Tens gw) {F : Fns} (hF : FOk (env K gw) F) (L : List (V × V)) (hL : L.length < 1073741824) : ∃ r s', FT (env K gw) (fun i => i ∈ ([] : List Nat)) 10 [.sl (pairs L)] s r s' ∧ Eff [] s s' ∧ Below s'.nx r ∧
    (∃ rid l, r = .ptr rid 0 ∧ RelP s' l rid 2 (fillR (L.take 40)) ∧ ∀ i ∈ l, s.nx ≤ i ∧ i < s'.nx) := by
  refine FT.eff (fn := Tryd.f10) gw (Z_ok hF) mixed Tryd.func10 (by kernel_rfl) (by rfl) rfl rfl (by simp) (by kernel_rfl) fun μ w => ?_
  obtain ⟨s1, rid, l1, hnew, hE1, hR1, hl1⟩ := Z_new (K := K) (gw := gw) (F := F) (s := s) 2 (by omega)
  have hnew' : Z K gw F 11 [.int .i64 2] s = some (.ptr rid 0, s1, []) := hnew
  repeat' (first
    | refine WP.t ?_ | refine WP.k ?_ | refine WP.e ?_ | refine Qn ?_ | refine Qr ?_ | refine Qe ?_ | refine Bn ?_ | refine Br ?_ | refine Be ?_ | refine Bx (by decide) ?_
    | (refine RS.nl ?_; refine hk _ _ ?_; clear hk k)
    | ((first | refine RS.st fun A B hA hB => ?_ | refine RQ.st fun A B hA hB => ?_); simp [hnew', onW_t, onW_f, onV_s]; first | ((first | refine hA _ _ _ ?_ ?_ | refine hA _ _ _ ?_ (by first | exact .inl rfl | exact .inr (by decide)) ?_); (focus (simp [hnew'] <;> omega)); clear hA hB A B) | (refine hB ?_; clear hA hB A B) | (refine onV_if ?_ ?_; (focus (first | omega | (refine ⟨?_, ?_⟩ <;> omega))); simp only [onV_s]; (first | refine hA _ _ _ ?_ ?_ | refine hA _ _ _ ?_ (by first | exact .inl rfl | exact .inr (by decide)) ?_); (focus (simp [hnew'] <;> omega)); clear hA hB A B))
    | (refine RQ.nl ?_; refine hk _ _ ?_; clear hk k)
    | refine WP.sr fun k hk => ?_ | refine WP.r fun k hk => ?_
    | refine WP.sd _ rfl fun k hk => ?_ | refine WP.d _ rfl fun k hk => ?_
    | (refine WP.cc fun A B hA hB => ?_; simp [hnew', onB_t, onB_f]; first | (refine hA ?_; clear hA hB A B) | (refine hB ?_; clear hA hB A B) | (refine onB_if (fun h => hA ?_) (fun h => hB ?_) <;> clear hA hB A B))
    | refine WP.q ?_ | refine WP.b ?_)
  refine WP_loop (fun n T s' => ∃ (i : Nat) (l : List Nat), i ≤ L.length ∧ i ≤ 40 ∧ n + i = L.length ∧ T.get 0 = .sl (pairs L) ∧ T.get 3 = .ptr rid 0 ∧ T.get 4 = .int .i64 i ∧
    Eff [] s s' ∧ RelP s' l rid 2 (fillR (L.take i)) ∧ ∀ j ∈ l, s.nx ≤ j) L.length ⟨0, l1, by omega, by omega, by simp, by simp, by simp, by simp, hE1, by simpa [fillR] using hR1, fun j hj => (hl1 j hj).1⟩ ?_
  rintro n T s' ⟨i, l, hi1, hi2, hni, g0, g3, g4, hE, hR, hl⟩
  have hpl : (pairs L).length = L.length := by simp [pairs]
  have hfl := fillR_len (L.take i)
  have htl : (L.take i).length ≤ 40 := by simp; omega
  by_cases hi : i < L.length
  · have hlt : ((i : Int) < (L.length : Int)) := by omega
    by_cases h40 : i < 40
    · have hw : IntKind.i64.wrap ((i : Int) + 1) = (i : Int) + 1 := wrap64 (by omega) (by omega)
      have hlt2 : ((i : Int) < 40) := by omega
      have hft := fillR_take hi
      have ha3 : ∀ h : i < (pairs L).length, (pairs L)[i]'h = pc L[i] := fun h => by simp [pairs]
      obtain ⟨s2, ids, hadd, hids, hE2, l2, hR2, hl2⟩ := Z_add (K := K) (gw := gw) (F := F) hK hT hR (pr L[i]) (by omega)
      rw [← hft] at hR2
      have hnx := hE.nx
      have hids2 : ∀ j ∈ ids, s.nx ≤ j := fun j hj => hl j (hids j hj)
      generalize hv : L[i] = v at *
      have hcs : List.map V.cs (pr v) = [v.1.cs, v.2.cs] := rfl
      rw [hcs] at hadd
      simp only [V.cs] at hadd
      repeat' (first
        | refine WP.t ?_ | refine WP.k ?_ | refine WP.e ?_ | refine Qn ?_ | refine Qr ?_ | refine Qe ?_ | refine Bn ?_ | refine Br ?_ | refine Be ?_ | refine Bx (by decide) ?_
        | (refine RS.nl ?_; refine hk _ _ ?_; clear hk k)
        | ((first | refine RS.st fun A B hA hB => ?_ | refine RQ.st fun A B hA hB => ?_); simp [g0, g3, g4, hlt, hlt2, hi, hw, hpl, ha3, pc, V.cs, hadd, hids2, hv, sz25, onW_t, onW_f, onV_s]; first | ((first | refine hA _ _ _ ?_ ?_ | refine hA _ _ _ ?_ (by first | exact .inl rfl | exact .inr (by decide)) ?_); (focus (simp [g0, g3, g4, hlt, hlt2, hi, hw, hpl, ha3, pc, V.cs, hadd, hids2, hv, sz25] <;> omega)); clear hA hB A B) | (refine hB ?_; clear hA hB A B) | (refine onV_if ?_ ?_; (focus (first | omega | (refine ⟨?_, ?_⟩ <;> omega))); simp only [onV_s]; (first | refine hA _ _ _ ?_ ?_ | refine hA _ _ _ ?_ (by first | exact .inl rfl | exact .inr (by decide)) ?_); (focus (simp [g0, g3, g4, hlt, hlt2, hi, hw, hpl, ha3, pc, V.cs, hadd, hids2, hv, sz25] <;> omega)); clear hA hB A B))
        | (refine RQ.nl ?_; refine hk _ _ ?_; clear hk k)
        | refine WP.sr fun k hk => ?_ | refine WP.r fun k hk => ?_
        | refine WP.sd _ rfl fun k hk => ?_ | refine WP.d _ rfl fun k hk => ?_
        | (refine WP.cc fun A B hA hB => ?_; simp [g0, g3, g4, hlt, hlt2, hi, hw, hpl, ha3, pc, V.cs, hadd, hids2, hv, sz25, onB_t, onB_f]; first | (refine hA ?_; clear hA hB A B) | (refine hB ?_; clear hA hB A B) | (refine onB_if (fun h => hA ?_) (fun h => hB ?_) <;> clear hA hB A B))
        | refine WP.q ?_ | refine WP.b ?_)
      refine ⟨n - 1, by omega, i + 1, l2, by omega, by omega, by omega, by simp [g0], by simp [g3], by simp, hE.trans hE2 fun j hj => .inr (hl j hj), hR2, fun j hj => (hl2 j hj).elim (fun h => hl j h) fun h => by omega⟩
    · have hlt2 : ¬ ((i : Int) < 40) := by omega
      have he : i = 40 := by omega
      have hi3 : ¬ i < 40 := by omega
      have ht : L.take i = L.take 40 := by rw [he]
      rw [ht] at hR
      repeat' (first
        | refine WP.t ?_ | refine WP.k ?_ | refine WP.e ?_ | refine Qn ?_ | refine Qr ?_ | refine Qe ?_ | refine Bn ?_ | refine Br ?_ | refine Be ?_ | refine Bx (by decide) ?_
        | (refine RS.nl ?_; refine hk _ _ ?_; clear hk k)
        | ((first | refine RS.st fun A B hA hB => ?_ | refine RQ.st fun A B hA hB => ?_); simp [g0, g3, g4, hlt, hi, hlt2, hi3, hpl, onW_t, onW_f, onV_s]; first | ((first | refine hA _ _ _ ?_ ?_ | refine hA _ _ _ ?_ (by first | exact .inl rfl | exact .inr (by decide)) ?_); (focus (simp [g0, g3, g4, hlt, hi, hlt2, hi3, hpl] <;> omega)); clear hA hB A B) | (refine hB ?_; clear hA hB A B) | (refine onV_if ?_ ?_; (focus (first | omega | (refine ⟨?_, ?_⟩ <;> omega))); simp only [onV_s]; (first | refine hA _ _ _ ?_ ?_ | refine hA _ _ _ ?_ (by first | exact .inl rfl | exact .inr (by decide)) ?_); (focus (simp [g0, g3, g4, hlt, hi, hlt2, hi3, hpl] <;> omega)); clear hA hB A B))
        | (refine RQ.nl ?_; refine hk _ _ ?_; clear hk k)
        | refine WP.sr fun k hk => ?_ | refine WP.r fun k hk => ?_
        | refine WP.sd _ rfl fun k hk => ?_ | refine WP.d _ rfl fun k hk => ?_
        | (refine WP.cc fun A B hA hB => ?_; simp [g0, g3, g4, hlt, hi, hlt2, hi3, hpl, onB_t, onB_f]; first | (refine hA ?_; clear hA hB A B) | (refine hB ?_; clear hA hB A B) | (refine onB_if (fun h => hA ?_) (fun h => hB ?_) <;> clear hA hB A B))
        | refine WP.q ?_ | refine WP.b ?_)
      exact ⟨.inr rfl, ⟨.ptr rid 0, by simp [g3], below_ptr.2 (hR.own _ hR.mem).1, rid, l, rfl, hR, fun j hj => ⟨hl j hj, (hR.own j hj).1⟩⟩, hE⟩
  · have hlt : ¬ ((i : Int) < (L.length : Int)) := by omega
    have he : i = L.length := by omega
    have ht : L.take i = L.take 40 := by rw [he, List.take_length, List.take_of_length_le (by omega)]
    rw [ht] at hR
    repeat' (first
      | refine WP.t ?_ | refine WP.k ?_ | refine WP.e ?_ | refine Qn ?_ | refine Qr ?_ | refine Qe ?_ | refine Bn ?_ | refine Br ?_ | refine Be ?_ | refine Bx (by decide) ?_
      | (refine RS.nl ?_; refine hk _ _ ?_; clear hk k)
      | ((first | refine RS.st fun A B hA hB => ?_ | refine RQ.st fun A B hA hB => ?_); simp [g0, g3, g4, hlt, hpl, onW_t, onW_f, onV_s]; first | ((first | refine hA _ _ _ ?_ ?_ | refine hA _ _ _ ?_ (by first | exact .inl rfl | exact .inr (by decide)) ?_); (focus (simp [g0, g3, g4, hlt, hpl] <;> omega)); clear hA hB A B) | (refine hB ?_; clear hA hB A B) | (refine onV_if ?_ ?_; (focus (first | omega | (refine ⟨?_, ?_⟩ <;> omega))); simp only [onV_s]; (first | refine hA _ _ _ ?_ ?_ | refine hA _ _ _ ?_ (by first | exact .inl rfl | exact .inr (by decide)) ?_); (focus (simp [g0, g3, g4, hlt, hpl] <;> omega)); clear hA hB A B))
      | (refine RQ.nl ?_; refine hk _ _ ?_; clear hk k)
      | refine WP.sr fun k hk => ?_ | refine WP.r fun k hk => ?_
      | refine WP.sd _ rfl fun k hk => ?_ | refine WP.d _ rfl fun k hk => ?_
      | (refine WP.cc fun A B hA hB => ?_; simp [g0, g3, g4, hlt, hpl, onB_t, onB_f]; first | (refine hA ?_; clear hA hB A B) | (refine hB ?_; clear hA hB A B) | (refine onB_if (fun h => hA ?_) (fun h => hB ?_) <;> clear hA hB A B))
      | refine WP.q ?_ | refine WP.b ?_)
    exact ⟨.inr rfl, ⟨.ptr rid 0, by simp [g3], below_ptr.2 (hR.own _ hR.mem).1, rid, l, rfl, hR, fun j hj => ⟨hl j hj, (hR.own j hj).1⟩⟩, hE⟩
end
end Go.Am
