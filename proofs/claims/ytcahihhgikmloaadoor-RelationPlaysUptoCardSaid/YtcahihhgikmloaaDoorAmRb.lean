/- Part of the proof: abstract values over the given model of Go (R5, R6, R7). Conditions: none of its own; see the statement in the seat's Rows text. -/
import Derived.Test.YtcahihhgikmloaaDoorAmRa
import Derived.Test.YtcahihhgikmloaaDoorAmLa
set_option linter.unusedSimpArgs false
set_option linter.unusedVariables false
set_option linter.unusedSectionVars false
namespace Go.Am
open Go.Proofs
structure De where
  k : Int
  t : List V
  c : List Int
  o : Bool
def dc (d : De) : List AV := [.int .i64 d.k, .sl (d.t.map V.cs), .sl (ints d.c), .bool d.o]
def deeds (L : List De) : List (List AV) := L.map dc
def okDe (d : De) : Bool := decide (d.t.length ≤ 8) && decide (d.c.length ≤ 8)
def fewL (L : List De) : List De := (L.filter okDe).take 80
theorem below_dc (n : Nat) (L : List De) : ∀ e ∈ deeds L, ∀ x ∈ e, Below n x := fun e he x hx => by
  obtain ⟨d, _, rfl⟩ := List.mem_map.1 he
  simp only [dc, List.mem_cons, List.mem_nil_iff, or_false] at hx
  rcases hx with rfl | rfl | rfl | rfl
  · exact .int _ _
  · exact below_slV _ _
  · refine below_sl.2 fun e he x hx => ?_
    obtain ⟨c, _, rfl⟩ := List.mem_map.1 he
    simp at hx; subst hx; exact .int _ _
  · exact .bool _
section
variable {K : Nat} {gw : World} {s : St}
attribute [local simp] awanted xop zOf zrow aop ev T0 Slots.put Slots.set Slots.get awr WOk AV.may ofConst abinop aint isConst St.get_push St.get_put St.live AV.fit AV.cells AV.one fieldOf afieldAddr aload ofCells astore splice May eqres env_ti FinP FinZ FinW ares aresL ares1 Fns.addP Fns.add Fns.a0 Fns.a1 Fns.a2 Fns.a3 Fns.a4 abuiltin alenOk alen aindex elemOfT elemId abuildSlice afill chunks ard aappend isSS AV.isStr aminmax placesOf abuild afield aidx isStrD isStrDesc astrop aslice asliceOk abound arange anext aextract aunop aeq AV.ck avseq aveq aconv aconvert onB_t onB_f List.range_succ ti0 ti1 ti2 ti3 ti4 ti5 ti6 ti7 ti8 ti9 ti10 ti11 ti12 ti13 ti14 ti15 ti16 ti17 ti18 ti19 ti20 ti21 ti22 ti23 ti24 ti25 ti26 ti27 ti28 ti29 ti30 ti31 ti32 ti33 ti34 ti35 ti36 ti37 ti38 ti39 ti40 ti41 ti42 ti43 ti44 ti45 ti46 ti47 ti48 ti49 ti50 ti51 ti52 ti53 ti54 ti55 ti56 ti57 ti58 ti59 ti60 ti61 ti62 ti63 ti64 ti65 ti66 ti67 ti68 ti69 ti70 ti71 ti72 ti73 ti74 ti75 ti76 ti77 ti78 ti79 ti80 ti81 ti82 ti83 ti84 ti85 ti86 ti87 ti88 ti89 ti90 ti91 ti92 ti93 ti94 ti95 ti96 ti97 ti98 ti99 ti100 ti101 ti102 ti103 ti104 ti105 ti106 ti107 ti108 ti109 ti110 ti111 ti112 ti113 ti114 ti115 ti116 ti117 ti118 ti119 ti120 ti121 ti122 ti123 ti124 ti125 ti126 ti127 ti128 ti129 ti130 ti131 ti132 ti133 ti134 ti135 ti136 ti137 ti138 ti139 ti140 ti141 ti142 ti143 ti144 ti145 ti146 ti147
set_option maxRecDepth 20000 in
theorem ft_few (L : List De) (hL : L.length < 1073741824) : FT (env K gw) NoW 21 [.sl (deeds L)] s (.sl (deeds (fewL L))) s := by
  refine FT.data (fn := Tryd.f21) F0_ok mixed Tryd.func21 (by kernel_rfl) (by rfl) rfl rfl (by simp) (by kernel_rfl) fun μ w => ?_
  have hel : (deeds L).length = L.length := by simp [deeds]
  repeat' (first
    | refine WP.t ?_ | refine WP.k ?_ | refine WP.e ?_ | refine Qn ?_ | refine Qr ?_ | refine Qe ?_ | refine Bn ?_ | refine Br ?_ | refine Be ?_ | refine Bx (by decide) ?_
    | (refine RS.nl ?_; refine hk _ _ ?_; clear hk k)
    | ((first | refine RS.st fun A B hA hB => ?_ | refine RQ.st fun A B hA hB => ?_); simp [onW_t, onW_t, onW_f, onV_s]; first | ((first | refine hA _ _ _ ?_ ?_ | refine hA _ _ _ ?_ (by first | exact .inl rfl | exact .inr (by decide)) ?_); (focus (simp [onW_t] <;> omega)); clear hA hB A B) | (refine hB ?_; clear hA hB A B) | (refine onV_if ?_ ?_; (focus (first | omega | (refine ⟨?_, ?_⟩ <;> omega))); simp only [onV_s]; (first | refine hA _ _ _ ?_ ?_ | refine hA _ _ _ ?_ (by first | exact .inl rfl | exact .inr (by decide)) ?_); (focus (simp [onW_t] <;> omega)); clear hA hB A B))
    | (refine RQ.nl ?_; refine hk _ _ ?_; clear hk k)
    | refine WP.sr fun k hk => ?_ | refine WP.r fun k hk => ?_
    | refine WP.sd _ rfl fun k hk => ?_ | refine WP.d _ rfl fun k hk => ?_
    | (refine WP.cc fun A B hA hB => ?_; simp [onW_t, onB_t, onB_f]; first | (refine hA ?_; clear hA hB A B) | (refine hB ?_; clear hA hB A B) | (refine onB_if (fun h => hA ?_) (fun h => hB ?_) <;> clear hA hB A B))
    | refine WP.q ?_ | refine WP.b ?_)
  refine WP_loop (fun n T s' => ∃ i : Nat, n + i = L.length ∧ T.get 0 = .sl (deeds L) ∧ T.get 4 = .int .i64 i ∧ s.nx ≤ s'.nx ∧ ((L.take i).filter okDe).length ≤ 80 ∧
    (((L.take i).filter okDe = [] ∧ T.get 3 = .nsl) ∨ ((L.take i).filter okDe ≠ [] ∧ ∃ q, s.nx ≤ q ∧ q < s'.nx ∧ T.get 3 = .ls q 0 ((L.take i).filter okDe).length ∧ s'.get q = some (.row 4 (true, 52) (deeds ((L.take i).filter okDe)))))) L.length
    ⟨0, by simp, by simp, by simp, by simp, by simp, .inl ⟨by simp, by simp⟩⟩ ?_
  rintro n T s' ⟨i, hni, g0, g4, hnx, h80, hB⟩
  have fin : (¬ i < L.length ∨ ((L.take i).filter okDe).length = 80) → fewL L = (L.take i).filter okDe := fun h => by
    unfold fewL
    rcases h with h | h
    · rw [List.take_of_length_le (l := L) (by omega)] at h80 ⊢
      rw [List.take_of_length_le h80]
    · have e : L.filter okDe = (L.take i).filter okDe ++ (L.drop i).filter okDe := by rw [← List.filter_append, List.take_append_drop]
      rw [e, ← h, List.take_left']
      rfl
  by_cases hi : i < L.length
  · have hlt : ((i : Int) < (L.length : Int)) := by omega
    by_cases hlt80 : ((L.take i).filter okDe).length < 80
    · have hw : IntKind.i64.wrap ((i : Int) + 1) = (i : Int) + 1 := wrap64 (by omega) (by omega)
      have htk : L.take (i + 1) = L.take i ++ [L[i]] := List.take_succ_eq_append_getElem hi
      have hft : (L.take (i + 1)).filter okDe = (L.take i).filter okDe ++ [L[i]].filter okDe := by rw [htk, List.filter_append]
      have ha3 : ∀ h : i < (deeds L).length, (deeds L)[i]'h = dc L[i] := fun h => by simp [deeds]
      generalize hd : L[i] = d at *
      have hil : (ints d.c).length = d.c.length := by simp [ints]
      generalize hO : (L.take i).filter okDe = O at *
      have hlo : ((O.length : Int) < 80) := by omega
      by_cases ht : d.t.length ≤ 8
      · have hti : ((d.t.length : Int) ≤ 8) := by omega
        by_cases hc : d.c.length ≤ 8
        · have hci : ((d.c.length : Int) ≤ 8) := by omega
          have hok : okDe d = true := by simp [okDe, ht, hc]
          have hft2 : (L.take (i + 1)).filter okDe = O ++ [d] := by rw [hft]; simp [hok]
          have hm1 : ∀ e : List AV, (e ∈ ints d.c) = ∃ m, m ∈ d.c ∧ [.int .i64 m] = e := fun e => by simp [ints]
          have hb1 : ∀ (a : V) (x : AV), (x ∈ a.cs) = (x = .bool a.b ∨ x = .str a.s ∨ x = .int .i64 a.n) := fun a x => by simp [V.cs]
          rcases hB with ⟨h0, g3⟩ | ⟨h0, q, q1, q2, g3, q3⟩
          · skip
            repeat' (first
              | refine WP.t ?_ | refine WP.k ?_ | refine WP.e ?_ | refine Qn ?_ | refine Qr ?_ | refine Qe ?_ | refine Bn ?_ | refine Br ?_ | refine Be ?_ | refine Bx (by decide) ?_
              | (refine RS.nl ?_; refine hk _ _ ?_; clear hk k)
              | ((first | refine RS.st fun A B hA hB => ?_ | refine RQ.st fun A B hA hB => ?_); simp [g0, g3, g4, hel, hlt, hi, hw, ha3, dc, ht, hti, hc, hci, hil, hm1, hb1, onW_t, onW_f, onV_s]; first | ((first | refine hA _ _ _ ?_ ?_ | refine hA _ _ _ ?_ (by first | exact .inl rfl | exact .inr (by decide)) ?_); (focus (simp [g0, g3, g4, hel, hlt, hi, hw, ha3, dc, ht, hti, hc, hci, hil, hm1, hb1] <;> omega)); clear hA hB A B) | (refine hB ?_; clear hA hB A B) | (refine onV_if ?_ ?_; (focus (first | omega | (refine ⟨?_, ?_⟩ <;> omega))); simp only [onV_s]; (first | refine hA _ _ _ ?_ ?_ | refine hA _ _ _ ?_ (by first | exact .inl rfl | exact .inr (by decide)) ?_); (focus (simp [g0, g3, g4, hel, hlt, hi, hw, ha3, dc, ht, hti, hc, hci, hil, hm1, hb1] <;> omega)); clear hA hB A B))
              | (refine RQ.nl ?_; refine hk _ _ ?_; clear hk k)
              | refine WP.sr fun k hk => ?_ | refine WP.r fun k hk => ?_
              | refine WP.sd _ rfl fun k hk => ?_ | refine WP.d _ rfl fun k hk => ?_
              | (refine WP.cc fun A B hA hB => ?_; simp [g0, g3, g4, hel, hlt, hi, hw, ha3, dc, ht, hti, hc, hci, hil, hm1, hb1, onB_t, onB_f]; first | (refine hA ?_; clear hA hB A B) | (refine hB ?_; clear hA hB A B) | (refine onB_if (fun h => hA ?_) (fun h => hB ?_) <;> clear hA hB A B))
              | refine WP.q ?_ | refine WP.b ?_)
            refine ⟨n - 1, by omega, i + 1, by omega, by simp [g0], by simp, by simp; omega, ?_, ?_⟩
            · rw [hft2, h0]; simp
            · rw [hft2, h0]
              exact .inr ⟨by simp, s'.nx, by omega, by simp, by simp, by simp [deeds, dc]⟩
          · have n1 : ¬ q = s'.nx := by omega
            have hln : (deeds O).length = O.length := by simp [deeds]
            have htl : List.take O.length (deeds O) = deeds O := List.take_of_length_le (by omega)
            have hby : (O.length + 1) * 64 ≤ 140737488355328 := by omega
            have e3 : ∀ s2 : St, s2.nx = s'.nx → ∀ o, (s2.push o).get s'.nx = some o := fun s2 h o => by rw [← h]; exact St.get_push_same _ _
            repeat' (first
              | refine WP.t ?_ | refine WP.k ?_ | refine WP.e ?_ | refine Qn ?_ | refine Qr ?_ | refine Qe ?_ | refine Bn ?_ | refine Br ?_ | refine Be ?_ | refine Bx (by decide) ?_
              | (refine RS.nl ?_; refine hk _ _ ?_; clear hk k)
              | ((first | refine RS.st fun A B hA hB => ?_ | refine RQ.st fun A B hA hB => ?_); simp [g0, g3, g4, hel, hlt, hi, hlo, hlt80, hw, ha3, dc, ht, hti, hc, hci, hil, hm1, hb1, q1, q2, q3, n1, hln, htl, hby, onW_t, onW_f, onV_s]; first | ((first | refine hA _ _ _ ?_ ?_ | refine hA _ _ _ ?_ (by first | exact .inl rfl | exact .inr (by decide)) ?_); (focus (simp [g0, g3, g4, hel, hlt, hi, hlo, hlt80, hw, ha3, dc, ht, hti, hc, hci, hil, hm1, hb1, q1, q2, q3, n1, hln, htl, hby] <;> omega)); clear hA hB A B) | (refine hB ?_; clear hA hB A B) | (refine onV_if ?_ ?_; (focus (first | omega | (refine ⟨?_, ?_⟩ <;> omega))); simp only [onV_s]; (first | refine hA _ _ _ ?_ ?_ | refine hA _ _ _ ?_ (by first | exact .inl rfl | exact .inr (by decide)) ?_); (focus (simp [g0, g3, g4, hel, hlt, hi, hlo, hlt80, hw, ha3, dc, ht, hti, hc, hci, hil, hm1, hb1, q1, q2, q3, n1, hln, htl, hby] <;> omega)); clear hA hB A B))
              | (refine RQ.nl ?_; refine hk _ _ ?_; clear hk k)
              | refine WP.sr fun k hk => ?_ | refine WP.r fun k hk => ?_
              | refine WP.sd _ rfl fun k hk => ?_ | refine WP.d _ rfl fun k hk => ?_
              | (refine WP.cc fun A B hA hB => ?_; simp [g0, g3, g4, hel, hlt, hi, hlo, hlt80, hw, ha3, dc, ht, hti, hc, hci, hil, hm1, hb1, q1, q2, q3, n1, hln, htl, hby, onB_t, onB_f]; first | (refine hA ?_; clear hA hB A B) | (refine hB ?_; clear hA hB A B) | (refine onB_if (fun h => hA ?_) (fun h => hB ?_) <;> clear hA hB A B))
              | refine WP.q ?_ | refine WP.b ?_)
            refine ⟨n - 1, by omega, i + 1, by omega, by simp [g0], by simp, by simp; omega, ?_, ?_⟩
            · rw [hft2]; simp; omega
            · rw [hft2]
              exact .inr ⟨by simp, s'.nx, by omega, by simp, by simp, by rw [e3 _ (by simp)]; simp [deeds, dc]⟩
        · have hci : ¬ ((d.c.length : Int) ≤ 8) := by omega
          have hok : okDe d = false := by simp [okDe, ht, hc] <;> omega
          have hft2 : (L.take (i + 1)).filter okDe = O := by rw [hft]; simp [hok]
          rcases hB with ⟨h0, g3⟩ | ⟨h0, q, q1, q2, g3, q3⟩
          · skip
            repeat' (first
              | refine WP.t ?_ | refine WP.k ?_ | refine WP.e ?_ | refine Qn ?_ | refine Qr ?_ | refine Qe ?_ | refine Bn ?_ | refine Br ?_ | refine Be ?_ | refine Bx (by decide) ?_
              | (refine RS.nl ?_; refine hk _ _ ?_; clear hk k)
              | ((first | refine RS.st fun A B hA hB => ?_ | refine RQ.st fun A B hA hB => ?_); simp [g0, g3, g4, hel, hlt, hi, hw, ha3, dc, ht, hti, hc, hci, hil, onW_t, onW_f, onV_s]; first | ((first | refine hA _ _ _ ?_ ?_ | refine hA _ _ _ ?_ (by first | exact .inl rfl | exact .inr (by decide)) ?_); (focus (simp [g0, g3, g4, hel, hlt, hi, hw, ha3, dc, ht, hti, hc, hci, hil] <;> omega)); clear hA hB A B) | (refine hB ?_; clear hA hB A B) | (refine onV_if ?_ ?_; (focus (first | omega | (refine ⟨?_, ?_⟩ <;> omega))); simp only [onV_s]; (first | refine hA _ _ _ ?_ ?_ | refine hA _ _ _ ?_ (by first | exact .inl rfl | exact .inr (by decide)) ?_); (focus (simp [g0, g3, g4, hel, hlt, hi, hw, ha3, dc, ht, hti, hc, hci, hil] <;> omega)); clear hA hB A B))
              | (refine RQ.nl ?_; refine hk _ _ ?_; clear hk k)
              | refine WP.sr fun k hk => ?_ | refine WP.r fun k hk => ?_
              | refine WP.sd _ rfl fun k hk => ?_ | refine WP.d _ rfl fun k hk => ?_
              | (refine WP.cc fun A B hA hB => ?_; simp [g0, g3, g4, hel, hlt, hi, hw, ha3, dc, ht, hti, hc, hci, hil, onB_t, onB_f]; first | (refine hA ?_; clear hA hB A B) | (refine hB ?_; clear hA hB A B) | (refine onB_if (fun h => hA ?_) (fun h => hB ?_) <;> clear hA hB A B))
              | refine WP.q ?_ | refine WP.b ?_)
            exact ⟨n - 1, by omega, i + 1, by omega, by simp [g0], by simp, by omega, by rw [hft2]; omega, by rw [hft2]; exact .inl ⟨h0, by simp [g3]⟩⟩
          · skip
            repeat' (first
              | refine WP.t ?_ | refine WP.k ?_ | refine WP.e ?_ | refine Qn ?_ | refine Qr ?_ | refine Qe ?_ | refine Bn ?_ | refine Br ?_ | refine Be ?_ | refine Bx (by decide) ?_
              | (refine RS.nl ?_; refine hk _ _ ?_; clear hk k)
              | ((first | refine RS.st fun A B hA hB => ?_ | refine RQ.st fun A B hA hB => ?_); simp [g0, g3, g4, hel, hlt, hi, hlo, hlt80, hw, ha3, dc, ht, hti, hc, hci, hil, q3, onW_t, onW_f, onV_s]; first | ((first | refine hA _ _ _ ?_ ?_ | refine hA _ _ _ ?_ (by first | exact .inl rfl | exact .inr (by decide)) ?_); (focus (simp [g0, g3, g4, hel, hlt, hi, hlo, hlt80, hw, ha3, dc, ht, hti, hc, hci, hil, q3] <;> omega)); clear hA hB A B) | (refine hB ?_; clear hA hB A B) | (refine onV_if ?_ ?_; (focus (first | omega | (refine ⟨?_, ?_⟩ <;> omega))); simp only [onV_s]; (first | refine hA _ _ _ ?_ ?_ | refine hA _ _ _ ?_ (by first | exact .inl rfl | exact .inr (by decide)) ?_); (focus (simp [g0, g3, g4, hel, hlt, hi, hlo, hlt80, hw, ha3, dc, ht, hti, hc, hci, hil, q3] <;> omega)); clear hA hB A B))
              | (refine RQ.nl ?_; refine hk _ _ ?_; clear hk k)
              | refine WP.sr fun k hk => ?_ | refine WP.r fun k hk => ?_
              | refine WP.sd _ rfl fun k hk => ?_ | refine WP.d _ rfl fun k hk => ?_
              | (refine WP.cc fun A B hA hB => ?_; simp [g0, g3, g4, hel, hlt, hi, hlo, hlt80, hw, ha3, dc, ht, hti, hc, hci, hil, q3, onB_t, onB_f]; first | (refine hA ?_; clear hA hB A B) | (refine hB ?_; clear hA hB A B) | (refine onB_if (fun h => hA ?_) (fun h => hB ?_) <;> clear hA hB A B))
              | refine WP.q ?_ | refine WP.b ?_)
            exact ⟨n - 1, by omega, i + 1, by omega, by simp [g0], by simp, by omega, by rw [hft2]; omega, by rw [hft2]; exact .inr ⟨h0, q, q1, q2, by simp [g3], q3⟩⟩
      · have hti : ¬ ((d.t.length : Int) ≤ 8) := by omega
        have hok : okDe d = false := by simp [okDe] <;> omega
        have hft2 : (L.take (i + 1)).filter okDe = O := by rw [hft]; simp [hok]
        rcases hB with ⟨h0, g3⟩ | ⟨h0, q, q1, q2, g3, q3⟩
        · skip
          repeat' (first
            | refine WP.t ?_ | refine WP.k ?_ | refine WP.e ?_ | refine Qn ?_ | refine Qr ?_ | refine Qe ?_ | refine Bn ?_ | refine Br ?_ | refine Be ?_ | refine Bx (by decide) ?_
            | (refine RS.nl ?_; refine hk _ _ ?_; clear hk k)
            | ((first | refine RS.st fun A B hA hB => ?_ | refine RQ.st fun A B hA hB => ?_); simp [g0, g3, g4, hel, hlt, hi, hw, ha3, dc, ht, hti, onW_t, onW_f, onV_s]; first | ((first | refine hA _ _ _ ?_ ?_ | refine hA _ _ _ ?_ (by first | exact .inl rfl | exact .inr (by decide)) ?_); (focus (simp [g0, g3, g4, hel, hlt, hi, hw, ha3, dc, ht, hti] <;> omega)); clear hA hB A B) | (refine hB ?_; clear hA hB A B) | (refine onV_if ?_ ?_; (focus (first | omega | (refine ⟨?_, ?_⟩ <;> omega))); simp only [onV_s]; (first | refine hA _ _ _ ?_ ?_ | refine hA _ _ _ ?_ (by first | exact .inl rfl | exact .inr (by decide)) ?_); (focus (simp [g0, g3, g4, hel, hlt, hi, hw, ha3, dc, ht, hti] <;> omega)); clear hA hB A B))
            | (refine RQ.nl ?_; refine hk _ _ ?_; clear hk k)
            | refine WP.sr fun k hk => ?_ | refine WP.r fun k hk => ?_
            | refine WP.sd _ rfl fun k hk => ?_ | refine WP.d _ rfl fun k hk => ?_
            | (refine WP.cc fun A B hA hB => ?_; simp [g0, g3, g4, hel, hlt, hi, hw, ha3, dc, ht, hti, onB_t, onB_f]; first | (refine hA ?_; clear hA hB A B) | (refine hB ?_; clear hA hB A B) | (refine onB_if (fun h => hA ?_) (fun h => hB ?_) <;> clear hA hB A B))
            | refine WP.q ?_ | refine WP.b ?_)
          exact ⟨n - 1, by omega, i + 1, by omega, by simp [g0], by simp, by omega, by rw [hft2]; omega, by rw [hft2]; exact .inl ⟨h0, by simp [g3]⟩⟩
        · skip
          repeat' (first
            | refine WP.t ?_ | refine WP.k ?_ | refine WP.e ?_ | refine Qn ?_ | refine Qr ?_ | refine Qe ?_ | refine Bn ?_ | refine Br ?_ | refine Be ?_ | refine Bx (by decide) ?_
            | (refine RS.nl ?_; refine hk _ _ ?_; clear hk k)
            | ((first | refine RS.st fun A B hA hB => ?_ | refine RQ.st fun A B hA hB => ?_); simp [g0, g3, g4, hel, hlt, hi, hlo, hlt80, hw, ha3, dc, ht, hti, q3, onW_t, onW_f, onV_s]; first | ((first | refine hA _ _ _ ?_ ?_ | refine hA _ _ _ ?_ (by first | exact .inl rfl | exact .inr (by decide)) ?_); (focus (simp [g0, g3, g4, hel, hlt, hi, hlo, hlt80, hw, ha3, dc, ht, hti, q3] <;> omega)); clear hA hB A B) | (refine hB ?_; clear hA hB A B) | (refine onV_if ?_ ?_; (focus (first | omega | (refine ⟨?_, ?_⟩ <;> omega))); simp only [onV_s]; (first | refine hA _ _ _ ?_ ?_ | refine hA _ _ _ ?_ (by first | exact .inl rfl | exact .inr (by decide)) ?_); (focus (simp [g0, g3, g4, hel, hlt, hi, hlo, hlt80, hw, ha3, dc, ht, hti, q3] <;> omega)); clear hA hB A B))
            | (refine RQ.nl ?_; refine hk _ _ ?_; clear hk k)
            | refine WP.sr fun k hk => ?_ | refine WP.r fun k hk => ?_
            | refine WP.sd _ rfl fun k hk => ?_ | refine WP.d _ rfl fun k hk => ?_
            | (refine WP.cc fun A B hA hB => ?_; simp [g0, g3, g4, hel, hlt, hi, hlo, hlt80, hw, ha3, dc, ht, hti, q3, onB_t, onB_f]; first | (refine hA ?_; clear hA hB A B) | (refine hB ?_; clear hA hB A B) | (refine onB_if (fun h => hA ?_) (fun h => hB ?_) <;> clear hA hB A B))
            | refine WP.q ?_ | refine WP.b ?_)
          exact ⟨n - 1, by omega, i + 1, by omega, by simp [g0], by simp, by omega, by rw [hft2]; omega, by rw [hft2]; exact .inr ⟨h0, q, q1, q2, by simp [g3], q3⟩⟩
    · have h80e : ((L.take i).filter okDe).length = 80 := by omega
      have hfe := fin (.inr h80e)
      rcases hB with ⟨h0, g3⟩ | ⟨h0, q, q1, q2, g3, q3⟩
      · rw [h0] at h80e; simp at h80e
      · rw [h80e] at g3
        repeat' (first
          | refine WP.t ?_ | refine WP.k ?_ | refine WP.e ?_ | refine Qn ?_ | refine Qr ?_ | refine Qe ?_ | refine Bn ?_ | refine Br ?_ | refine Be ?_ | refine Bx (by decide) ?_
          | (refine RS.nl ?_; refine hk _ _ ?_; clear hk k)
          | ((first | refine RS.st fun A B hA hB => ?_ | refine RQ.st fun A B hA hB => ?_); simp [g0, g3, g4, hel, hlt, hi, q3, onW_t, onW_f, onV_s]; first | ((first | refine hA _ _ _ ?_ ?_ | refine hA _ _ _ ?_ (by first | exact .inl rfl | exact .inr (by decide)) ?_); (focus (simp [g0, g3, g4, hel, hlt, hi, q3] <;> omega)); clear hA hB A B) | (refine hB ?_; clear hA hB A B) | (refine onV_if ?_ ?_; (focus (first | omega | (refine ⟨?_, ?_⟩ <;> omega))); simp only [onV_s]; (first | refine hA _ _ _ ?_ ?_ | refine hA _ _ _ ?_ (by first | exact .inl rfl | exact .inr (by decide)) ?_); (focus (simp [g0, g3, g4, hel, hlt, hi, q3] <;> omega)); clear hA hB A B))
          | (refine RQ.nl ?_; refine hk _ _ ?_; clear hk k)
          | refine WP.sr fun k hk => ?_ | refine WP.r fun k hk => ?_
          | refine WP.sd _ rfl fun k hk => ?_ | refine WP.d _ rfl fun k hk => ?_
          | (refine WP.cc fun A B hA hB => ?_; simp [g0, g3, g4, hel, hlt, hi, q3, onB_t, onB_f]; first | (refine hA ?_; clear hA hB A B) | (refine hB ?_; clear hA hB A B) | (refine onB_if (fun h => hA ?_) (fun h => hB ?_) <;> clear hA hB A B))
          | refine WP.q ?_ | refine WP.b ?_)
        rw [hfe]
        refine ⟨.inr rfl, .ls q 0 80, by simp [g3], ?_⟩
        have hl : 80 = (deeds ((L.take i).filter okDe)).length := by simp [deeds, h80e]
        rw [hl]
        refine .row q 4 _ _ _ q3 q1 rfl (fun e he => ?_) (fun i j y hy => ⟨y, hy⟩) (fun i j x y hx hy => ?_)
        · obtain ⟨v, _, rfl⟩ := List.mem_map.1 he; rfl
        · rw [hx] at hy
          obtain rfl := Option.some.inj hy
          exact .same x (allGet2' (below_dc s.nx _) i j x hx)
  · have hlt : ¬ ((i : Int) < (L.length : Int)) := by omega
    have hfe := fin (.inl hi)
    rcases hB with ⟨h0, g3⟩ | ⟨h0, q, q1, q2, g3, q3⟩
    · skip
      repeat' (first
        | refine WP.t ?_ | refine WP.k ?_ | refine WP.e ?_ | refine Qn ?_ | refine Qr ?_ | refine Qe ?_ | refine Bn ?_ | refine Br ?_ | refine Be ?_ | refine Bx (by decide) ?_
        | (refine RS.nl ?_; refine hk _ _ ?_; clear hk k)
        | ((first | refine RS.st fun A B hA hB => ?_ | refine RQ.st fun A B hA hB => ?_); simp [g0, g3, g4, hel, hlt, hi, onW_t, onW_f, onV_s]; first | ((first | refine hA _ _ _ ?_ ?_ | refine hA _ _ _ ?_ (by first | exact .inl rfl | exact .inr (by decide)) ?_); (focus (simp [g0, g3, g4, hel, hlt, hi] <;> omega)); clear hA hB A B) | (refine hB ?_; clear hA hB A B) | (refine onV_if ?_ ?_; (focus (first | omega | (refine ⟨?_, ?_⟩ <;> omega))); simp only [onV_s]; (first | refine hA _ _ _ ?_ ?_ | refine hA _ _ _ ?_ (by first | exact .inl rfl | exact .inr (by decide)) ?_); (focus (simp [g0, g3, g4, hel, hlt, hi] <;> omega)); clear hA hB A B))
        | (refine RQ.nl ?_; refine hk _ _ ?_; clear hk k)
        | refine WP.sr fun k hk => ?_ | refine WP.r fun k hk => ?_
        | refine WP.sd _ rfl fun k hk => ?_ | refine WP.d _ rfl fun k hk => ?_
        | (refine WP.cc fun A B hA hB => ?_; simp [g0, g3, g4, hel, hlt, hi, onB_t, onB_f]; first | (refine hA ?_; clear hA hB A B) | (refine hB ?_; clear hA hB A B) | (refine onB_if (fun h => hA ?_) (fun h => hB ?_) <;> clear hA hB A B))
        | refine WP.q ?_ | refine WP.b ?_)
      rw [hfe, h0]
      exact ⟨.inr rfl, .nsl, by simp [g3], .nil⟩
    · skip
      repeat' (first
        | refine WP.t ?_ | refine WP.k ?_ | refine WP.e ?_ | refine Qn ?_ | refine Qr ?_ | refine Qe ?_ | refine Bn ?_ | refine Br ?_ | refine Be ?_ | refine Bx (by decide) ?_
        | (refine RS.nl ?_; refine hk _ _ ?_; clear hk k)
        | ((first | refine RS.st fun A B hA hB => ?_ | refine RQ.st fun A B hA hB => ?_); simp [g0, g3, g4, hel, hlt, hi, q3, onW_t, onW_f, onV_s]; first | ((first | refine hA _ _ _ ?_ ?_ | refine hA _ _ _ ?_ (by first | exact .inl rfl | exact .inr (by decide)) ?_); (focus (simp [g0, g3, g4, hel, hlt, hi, q3] <;> omega)); clear hA hB A B) | (refine hB ?_; clear hA hB A B) | (refine onV_if ?_ ?_; (focus (first | omega | (refine ⟨?_, ?_⟩ <;> omega))); simp only [onV_s]; (first | refine hA _ _ _ ?_ ?_ | refine hA _ _ _ ?_ (by first | exact .inl rfl | exact .inr (by decide)) ?_); (focus (simp [g0, g3, g4, hel, hlt, hi, q3] <;> omega)); clear hA hB A B))
        | (refine RQ.nl ?_; refine hk _ _ ?_; clear hk k)
        | refine WP.sr fun k hk => ?_ | refine WP.r fun k hk => ?_
        | refine WP.sd _ rfl fun k hk => ?_ | refine WP.d _ rfl fun k hk => ?_
        | (refine WP.cc fun A B hA hB => ?_; simp [g0, g3, g4, hel, hlt, hi, q3, onB_t, onB_f]; first | (refine hA ?_; clear hA hB A B) | (refine hB ?_; clear hA hB A B) | (refine onB_if (fun h => hA ?_) (fun h => hB ?_) <;> clear hA hB A B))
        | refine WP.q ?_ | refine WP.b ?_)
      rw [hfe]
      refine ⟨.inr rfl, .ls q 0 ((L.take i).filter okDe).length, by simp [g3], ?_⟩
      have hl : ((L.take i).filter okDe).length = (deeds ((L.take i).filter okDe)).length := by simp [deeds]
      rw [hl]
      refine .row q 4 _ _ _ q3 q1 rfl (fun e he => ?_) (fun i j y hy => ⟨y, hy⟩) (fun i j x y hx hy => ?_)
      · obtain ⟨v, _, rfl⟩ := List.mem_map.1 he; rfl
      · rw [hx] at hy
        obtain rfl := Option.some.inj hy
        exact .same x (allGet2' (below_dc s.nx _) i j x hx)
end
end Go.Am
namespace Go.Am
open Go.Proofs
/-! ### the two relations, side by side -/
theorem sel_append (p : List V × Nat → Bool) (R X : List (List V × Nat)) : Sel p (R ++ X) = Sel p R ++ Sel p X := by simp [Sel]
theorem any_delta {R : List (List V × Nat)} (h : ∀ r ∈ R, r.2 = 1) : R.any isDelta = decide (0 < (R.length : Int)) := by
  cases R with
  | nil => rfl
  | cons r R =>
    have := h r (by simp)
    have h2 : (0 : Int) < ((r :: R).length : Int) := by simp only [List.length_cons]; omega
    simp [isDelta, this, h2]
theorem any_none {R : List (List V × Nat)} (h : ∀ r ∈ R, r.2 ≠ 1) : R.any isDelta = false := by
  rw [List.any_eq_false]
  intro r hr
  simp [isDelta, h r hr]
def relOf (F D N : Rows0) : List (List V × Nat) := F.map (·, 2) ++ (D.map (·, 1) ++ N.map (·, 0))
theorem relOf_fst (F D N : Rows0) : (relOf F D N).map (·.1) = F ++ (D ++ N) := by simp [relOf, Function.comp_def]
theorem relOf_len (F D N : Rows0) : (relOf F D N).length = F.length + (D.length + N.length) := by simp [relOf]
theorem relOf_tr (F D N : Rows0) : (relOf F D N).map tr = relOf (F ++ D) N [] := by simp [relOf, tr, Function.comp_def]
theorem relOf_add (F D N : Rows0) (t : List V) : relOf F D N ++ [(t, 0)] = relOf F D (N ++ [t]) := by simp [relOf]
theorem relOf_any (F N : Rows0) : (relOf F N []).any isDelta = decide (0 < (N.length : Int)) := by
  have h1 : (F.map fun r => ((r, 2) : List V × Nat)).any isDelta = false := any_none fun r hr => by
    obtain ⟨q, _, rfl⟩ := List.mem_map.1 hr; simp
  have h2 := any_delta (R := N.map fun r => ((r, 1) : List V × Nat)) fun r hr => by
    obtain ⟨q, _, rfl⟩ := List.mem_map.1 hr; rfl
  rw [relOf, List.any_append, h1, List.map_nil, List.append_nil, h2, List.length_map, Bool.false_or]
theorem sel_map (p : List V × Nat → Bool) (A : Rows0) (k : Nat) : Sel p (A.map fun r => (r, k)) = A.filter fun r => p (r, k) := by
  simp [Sel, List.filter_map, Function.comp_def]
theorem relOf_all (F D N : Rows0) : Sel (fun _ => true) (relOf F D N) = rowsV N D F := by
  rw [sel_all, relOf_fst, rowsV, List.append_assoc]
theorem filt_f (A : Rows0) : A.filter (fun _ => false) = [] := List.filter_eq_nil_iff.2 fun _ _ h => by cases h
theorem filt_t (A : Rows0) : A.filter (fun _ => true) = A := List.filter_eq_self.2 fun _ _ => rfl
theorem relOf_delta (F D N : Rows0) : Sel isDelta (relOf F D N) = D := by
  rw [relOf, sel_append, sel_append, sel_map, sel_map, sel_map]
  simp [isDelta, filt_f, filt_t]
theorem relOf_mat (F D N : Rows0) (cols : List Nat) (vals : List V) (only : Bool) : Sel (matQ cols vals only) (relOf F D N) = (if only then [] else F.filter fun r => mV r cols vals) ++ D.filter fun r => mV r cols vals := by
  rw [relOf, sel_append, sel_append, sel_map, sel_map, sel_map]
  cases only <;> simp [matQ, ageOk, filt_f, filt_t]
theorem match_eq {F D N : Rows0} (h : BareR (relOf F D N)) (n : Nat) (cols : List Int) (vals : List V) (only : Bool) : matchV n (relOf F D N) cols vals only = rMatchV n D F cols vals only := by
  unfold matchV rMatchV
  by_cases hc : cols.length = vals.length ∧ okC n cols = true
  · rw [if_pos hc, if_pos hc]
    congr 3
    have hb1 := bareR_sel h (matQ (cols.map Int.toNat) vals only)
    unfold BareR at h
    rw [relOf_fst] at h
    rw [colsF_mV]
    have hsub : Bare (D ++ if only then [] else F) := by
      refine ⟨?_, fun r hr => h.bare r ?_⟩
      · have hnd := h.nd
        rw [List.nodup_append] at hnd
        obtain ⟨h1, h2, h3⟩ := hnd
        rw [List.nodup_append] at h2
        cases only
        · simp only [Bool.false_eq_true, if_false]
          rw [List.nodup_append]
          exact ⟨h2.1, h1, fun a ha b hb e => h3 b hb a (List.mem_append_left _ ha) e.symm⟩
        · simpa using h2.1
      · rcases List.mem_append.1 hr with hr | hr
        · simp [hr]
        · cases only
          · simp at hr; simp [hr]
          · simp at hr
    congr 1
    refine srt_ext hb1 (hsub.filter _) fun x => ?_
    rw [relOf_mat]
    cases only
    · simp only [Bool.false_eq_true, if_false, List.mem_append, List.mem_filter]
      constructor
      · rintro (⟨h1, h2⟩ | ⟨h1, h2⟩)
        · exact ⟨.inr h1, h2⟩
        · exact ⟨.inl h1, h2⟩
      · rintro ⟨h1 | h1, h2⟩
        · exact .inr ⟨h1, h2⟩
        · exact .inl ⟨h1, h2⟩
    · simp
  · rw [if_neg hc, if_neg hc]
theorem has_eq {F D N : Rows0} {n : Nat} (hb : BareR (relOf F D N)) (hl : ∀ r ∈ F ++ (D ++ N), r.length = n) (t : List V) : hasQr N D F t = (decide (t.length = n) && hasR (relOf F D N) t) := by
  unfold BareR at hb
  rw [relOf_fst] at hb
  have key : ∀ A : Rows0, (∀ r ∈ A, r ∈ F ++ (D ++ N)) → inQ A t = decide (t.map bareV ∈ A) := fun A hA => by
    rw [Bool.eq_iff_iff, inQ, List.any_eq_true]
    simp only [decide_eq_true_eq]
    constructor
    · rintro ⟨r, hr, hc⟩
      have := bare_eq (hb.bare r (hA r hr)) hc
      rw [← this]; exact hr
    · intro hm
      exact ⟨_, hm, cmpT_bare.2 (map_bare_bare t)⟩
  rw [hasQr, key N fun r h => by simp [h], key D fun r h => by simp [h], key F fun r h => by simp [h], hasR, relOf_fst, Bool.eq_iff_iff]
  simp only [Bool.or_eq_true, Bool.and_eq_true, decide_eq_true_eq, List.mem_append]
  constructor
  · intro h
    have hm : t.map bareV ∈ F ++ (D ++ N) := by simp only [List.mem_append]; rcases h with h | h | h <;> simp [h]
    have := hl _ hm
    rw [List.length_map] at this
    refine ⟨this, ?_⟩
    rcases h with h | h | h <;> simp [h]
  · rintro ⟨_, h⟩
    rcases h with h | h | h <;> simp [h]
/-! ### tables -/
def decI : List (List AV) → Option (List Int)
  | [] => some []
  | [.int .i64 n] :: es => (decI es).map (n :: ·)
  | _ => none
theorem decI_ints (l : List Int) : decI (ints l) = some l := by
  induction l with
  | nil => rfl
  | cons a l ih =>
    have : ints (a :: l) = [.int .i64 a] :: ints l := rfl
    rw [this, decI, ih]; rfl
theorem decI_eq : ∀ {es : List (List AV)} {l : List Int}, decI es = some l → es = ints l
  | [], l, h => by cases h; rfl
  | e :: es, l, h => by
    unfold decI at h
    split at h
    · rename_i heq; cases heq
    · rename_i n es' heq
      simp only [List.cons.injEq] at heq
      obtain ⟨rfl, rfl⟩ := heq
      obtain ⟨l', h1, rfl⟩ := Option.map_eq_some_iff.1 h
      rw [decI_eq h1]; rfl
    · cases h
def rowOkB (n : Nat) (A : Rows0) : Bool := A.all fun r => decide (r.length = n) && decide (r.map bareV = r) && okR r
theorem rowOkB_iff {n : Nat} {A : Rows0} : rowOkB n A = true ↔ ∀ r ∈ A, r.length = n ∧ r.map bareV = r ∧ okR r = true := by
  simp [rowOkB, and_assoc]
def smallB (N D F : Rows0) : Bool := (decide (N.length < 1000000) && decide (D.length < 1000000)) && decide (F.length < 1000000)
theorem smallB_iff {N D F : Rows0} : smallB N D F = true ↔ (N.length < 1000000 ∧ D.length < 1000000) ∧ F.length < 1000000 := by simp [smallB]
def pRAdd : List AV → Option AV
  | [.agg [.int .i64 n, .sl a, .sl b, .sl c], .sl ts] => match decD a, decD b, decD c, decL ts with
    | some N, some D, some F, some t => if (0 ≤ n ∧ okRs N = true ∧ okRs D = true) ∧ okRs F = true ∧ okR t = true ∧ t.length < 1073741824 then some (rAddV n.toNat N D F t) else none
    | _, _, _, _ => none
  | _ => none
def pRTurn : List AV → Option AV
  | [.agg [.int .i64 n, .sl a, .sl b, .sl c]] => match decD a, decD b, decD c with
    | some N, some D, some F => if 0 ≤ n ∧ smallB N D F = true then some (rTurnV n.toNat N D F) else none
    | _, _, _ => none
  | _ => none
def pRRows : List AV → Option AV
  | [.agg [.int .i64 n, .sl a, .sl b, .sl c]] => match decD a, decD b, decD c with
    | some N, some D, some F => if 0 ≤ n ∧ smallB N D F = true then some (.sl (encD (rowsV N D F))) else none
    | _, _, _ => none
  | _ => none
def pRAll : List AV → Option AV
  | [.agg [.int .i64 n, .sl a, .sl b, .sl c]] => match decD a, decD b, decD c with
    | some N, some D, some F => if (0 ≤ n ∧ smallB N D F = true) ∧ (rowsV N D F).all okR = true then some (.sl (encD (srt (rowsV N D F)))) else none
    | _, _, _ => none
  | _ => none
def pRMatch : List AV → Option AV
  | [.agg [.int .i64 n, .sl a, .sl b, .sl c], .sl cs, .sl vs, .bool only] => match decD a, decD b, decD c, decI cs, decL vs with
    | some N, some D, some F, some cols, some vals => if ((0 ≤ n ∧ n ≤ 6) ∧ smallB N D F = true) ∧ rowOkB n.toNat (D ++ F) = true ∧ okR vals = true ∧ cols.length < 1073741824 then some (rMatchV n.toNat D F cols vals only) else none
    | _, _, _, _, _ => none
  | _ => none
def fewQ : List AV → St → AV → St → List Nat → Prop := fun xs s r s' l => ∀ L, xs = [.sl (deeds L)] → r = .sl (deeds (fewL L)) ∧ s' = s ∧ l = []
theorem deeds_inj : ∀ {t u : List De}, deeds t = deeds u → t = u
  | [], [], _ => rfl
  | [], u :: us, h => by simp [deeds] at h
  | v :: t, [], h => by simp [deeds] at h
  | v :: t, u :: us, h => by
    simp only [deeds, List.map_cons, List.cons.injEq, dc, AV.int.injEq, AV.sl.injEq, AV.bool.injEq, true_and, and_true] at h
    obtain ⟨⟨h1, h2, h3, h4⟩, h5⟩ := h
    rw [deeds_inj (t := t) (u := us) h5]
    have h2' := map_cs_inj h2
    have h3' := ints_inj h3
    obtain ⟨a, b, c, d⟩ := v
    obtain ⟨a', b', c', d'⟩ := u
    simp only at h1 h2' h3' h4
    subst h1; subst h2'; subst h3'; subst h4
    rfl
theorem slOr.nrm0 {x : AV} {es : List (List AV)} (h : slOr x es) : Go.Am.nrm0 x = .sl es := by
  rcases h with rfl | ⟨rfl, rfl⟩ <;> rfl
theorem slOr.nrm {x : AV} {es : List (List AV)} (h : slOr x es) : Go.Am.nrm x = .sl es := by
  rcases h with rfl | ⟨rfl, rfl⟩ <;> rfl
section
variable {K : Nat} {gw : World} {s : St}
attribute [local simp] awanted xop zOf zrow aop ev T0 Slots.put Slots.set Slots.get awr WOk AV.may ofConst abinop aint isConst St.get_push St.get_put St.live AV.fit AV.cells AV.one fieldOf afieldAddr aload ofCells astore splice May eqres env_ti FinP FinZ FinW ares aresL ares1 Fns.addP Fns.add Fns.a0 Fns.a1 Fns.a2 Fns.a3 Fns.a4 abuiltin alenOk alen aindex elemOfT elemId abuildSlice afill chunks ard aappend isSS AV.isStr aminmax placesOf abuild afield aidx isStrD isStrDesc astrop aslice asliceOk abound arange anext aextract aunop aeq AV.ck avseq aveq aconv aconvert onB_t onB_f List.range_succ ti0 ti1 ti2 ti3 ti4 ti5 ti6 ti7 ti8 ti9 ti10 ti11 ti12 ti13 ti14 ti15 ti16 ti17 ti18 ti19 ti20 ti21 ti22 ti23 ti24 ti25 ti26 ti27 ti28 ti29 ti30 ti31 ti32 ti33 ti34 ti35 ti36 ti37 ti38 ti39 ti40 ti41 ti42 ti43 ti44 ti45 ti46 ti47 ti48 ti49 ti50 ti51 ti52 ti53 ti54 ti55 ti56 ti57 ti58 ti59 ti60 ti61 ti62 ti63 ti64 ti65 ti66 ti67 ti68 ti69 ti70 ti71 ti72 ti73 ti74 ti75 ti76 ti77 ti78 ti79 ti80 ti81 ti82 ti83 ti84 ti85 ti86 ti87 ti88 ti89 ti90 ti91 ti92 ti93 ti94 ti95 ti96 ti97 ti98 ti99 ti100 ti101 ti102 ti103 ti104 ti105 ti106 ti107 ti108 ti109 ti110 ti111 ti112 ti113 ti114 ti115 ti116 ti117 ti118 ti119 ti120 ti121 ti122 ti123 ti124 ti125 ti126 ti127 ti128 ti129 ti130 ti131 ti132 ti133 ti134 ti135 ti136 ti137 ti138 ti139 ti140 ti141 ti142 ti143 ti144 ti145 ti146 ti147
noncomputable def Y5 : Fns := V2.addN 26 pRRows
theorem rows_ok {F : Fns} (hF : FOk (env K gw) F) : FOk (env K gw) (F.addN 26 pRRows) := by
  refine hF.addN ?_
  intro xs s r h
  unfold pRRows at h
  split at h
  · rename_i n a b c
    split at h
    · rename_i N D F h1 h2 h3
      split at h
      · rename_i hc
        cases h
        rw [decD_eq h1, decD_eq h2, decD_eq h3]
        have hs := smallB_iff.1 hc.2
        have := ft_rRows (K := K) (gw := gw) (s := s) n.toNat N D F (by omega) (by omega) (by omega)
        simp only [refC, Int.toNat_of_nonneg hc.1] at this
        exact this
      · cases h
    · cases h
  · cases h
theorem ft_rAll (hK : 0 < K) (hT : Tens gw) (n : Nat) (N D F : Rows0) (hs : smallB N D F = true) (ho : (rowsV N D F).all okR = true) :
    FT (env K gw) NoW 27 [.agg (refC n N D F)] s (.sl (encD (srt (rowsV N D F)))) s := by
  refine FT.pure (fn := Tryd.f27) (rows_ok (V2_ok hK hT)) mixed Tryd.func27 (by kernel_rfl) (by rfl) rfl rfl (by simp) rfl fun μ w => ?_
  have hsm := smallB_iff.1 hs
  have hro : ∀ s2 : St, (V2.addN 26 pRRows) 26 [.agg [.int .i64 (n : Int), .sl (encD N), .sl (encD D), .sl (encD F)]] s2 = some (.sl (encD (rowsV N D F)), s2, []) := fun s2 => by
    simp only [Fns.addN, Fns.addP]
    simp [pRRows, nrm, nrm0, hs]
  have hso : ∀ s2 : St, (V2.addN 26 pRRows) 29 [.sl (encD (rowsV N D F))] s2 = some (.sl (encD (srt (rowsV N D F))), s2, []) := fun s2 => by
    have := V2_sortR (s := s2) (rowsV N D F) (by simp [rowsV]; omega) fun t ht => List.all_eq_true.1 ho t ht
    simp only [Fns.addN, Fns.addP]
    simpa using this
  repeat' (first
    | refine WP.t ?_ | refine WP.k ?_ | refine WP.e ?_ | refine Qn ?_ | refine Qr ?_ | refine Qe ?_ | refine Bn ?_ | refine Br ?_ | refine Be ?_ | refine Bx (by decide) ?_
    | (refine RS.nl ?_; refine hk _ _ ?_; clear hk k)
    | ((first | refine RS.st fun A B hA hB => ?_ | refine RQ.st fun A B hA hB => ?_); simp [refC, hro, hso, onW_t, onW_f, onV_s]; first | ((first | refine hA _ _ _ ?_ ?_ | refine hA _ _ _ ?_ (by first | exact .inl rfl | exact .inr (by decide)) ?_); (focus (simp [refC, hro, hso] <;> omega)); clear hA hB A B) | (refine hB ?_; clear hA hB A B) | (refine onV_if ?_ ?_; (focus (first | omega | (refine ⟨?_, ?_⟩ <;> omega))); simp only [onV_s]; (first | refine hA _ _ _ ?_ ?_ | refine hA _ _ _ ?_ (by first | exact .inl rfl | exact .inr (by decide)) ?_); (focus (simp [refC, hro, hso] <;> omega)); clear hA hB A B))
    | (refine RQ.nl ?_; refine hk _ _ ?_; clear hk k)
    | refine WP.sr fun k hk => ?_ | refine WP.r fun k hk => ?_
    | refine WP.sd _ rfl fun k hk => ?_ | refine WP.d _ rfl fun k hk => ?_
    | (refine WP.cc fun A B hA hB => ?_; simp [refC, hro, hso, onB_t, onB_f]; first | (refine hA ?_; clear hA hB A B) | (refine hB ?_; clear hA hB A B) | (refine onB_if (fun h => hA ?_) (fun h => hB ?_) <;> clear hA hB A B))
    | refine WP.q ?_ | refine WP.b ?_)
  exact ⟨.inr rfl, by simp, below_sl.2 (below_esD _ _)⟩
noncomputable def W2 (K : Nat) (gw : World) : Fns := (((((((W1 K gw).ch (env K gw) 21 fewQ).addN 26 pRRows).addN 22 pRAdd).addN 23 pRTurn).addN 27 pRAll).addN 24 pRMatch).addN 25 pRHas |>.addN 29 pSrtR
theorem W2_ok (hK : 0 < K) (hT : Tens gw) : FOk (env K gw) (W2 K gw) := by
  refine ((((((rows_ok ((W1_ok hK hT).ch)).addN ?_).addN ?_).addN ?_).addN ?_).addN ?_).addN ?_
  · intro xs s r h
    unfold pRAdd at h
    split at h
    · rename_i n a b c ts
      split at h
      · rename_i N D F t h1 h2 h3 h4
        split at h
        · rename_i hc
          cases h
          rw [decD_eq h1, decD_eq h2, decD_eq h3, decL_eq h4]
          have := ft_rAdd (s := s) hK hT n.toNat N D F t hc.1.2.1 hc.1.2.2 hc.2.1 hc.2.2.1 hc.2.2.2
          simp only [refC, Int.toNat_of_nonneg hc.1.1] at this
          exact this
        · cases h
      · cases h
    · cases h
  · intro xs s r h
    unfold pRTurn at h
    split at h
    · rename_i n a b c
      split at h
      · rename_i N D F h1 h2 h3
        split at h
        · rename_i hc
          cases h
          rw [decD_eq h1, decD_eq h2, decD_eq h3]
          have hs := smallB_iff.1 hc.2
          have := ft_rTurn (K := K) (gw := gw) (s := s) n.toNat N D F (by omega) (by omega) (by omega)
          simp only [refC, Int.toNat_of_nonneg hc.1] at this
          exact this
        · cases h
      · cases h
    · cases h
  · intro xs s r h
    unfold pRAll at h
    split at h
    · rename_i n a b c
      split at h
      · rename_i N D F h1 h2 h3
        split at h
        · rename_i hc
          cases h
          rw [decD_eq h1, decD_eq h2, decD_eq h3]
          have := ft_rAll (s := s) hK hT n.toNat N D F hc.1.2 hc.2
          simp only [refC, Int.toNat_of_nonneg hc.1.1] at this
          exact this
        · cases h
      · cases h
    · cases h
  · intro xs s r h
    unfold pRMatch at h
    split at h
    · rename_i n a b c cs vs only
      split at h
      · rename_i N D F cols vals h1 h2 h3 h4 h5
        split at h
        · rename_i hc
          cases h
          rw [decD_eq h1, decD_eq h2, decD_eq h3, decI_eq h4, decL_eq h5]
          have hs := smallB_iff.1 hc.1.2
          have hv : ∀ v ∈ vals, v.s.length < LIM := fun v hv => by
            have := hc.2.2.1
            simp only [okR, Bool.and_eq_true, decide_eq_true_eq, List.all_eq_true] at this
            exact this.2 v hv
          have := ft_rMatch (s := s) hK hT n.toNat N D F cols vals only (by omega) (by omega) (by omega) (rowOkB_iff.1 hc.2.1) hv hc.2.2.2
          simp only [refC, Int.toNat_of_nonneg hc.1.1.1] at this
          exact this
        · cases h
      · cases h
    · cases h
  · intro xs s r h
    unfold pRHas at h
    split at h
    · split at h
      · rename_i N D F t h1 h2 h3 h4
        split at h
        · rename_i hc
          cases h
          rw [decD_eq h1, decD_eq h2, decD_eq h3, decL_eq h4]
          exact ft_rHas hK hT _ N D F t hc.1.1 hc.1.2 hc.2.1 hc.2.2
        · cases h
      · cases h
    · cases h
  · intro xs s r h
    unfold pSrtR at h
    split at h
    · split at h
      · rename_i D hD
        split at h
        · rename_i hl
          cases h
          rw [decD_eq hD]
          exact ft19 hK hT D hl.1 (fun t ht => List.all_eq_true.1 hl.2 t ht)
        · cases h
      · cases h
    · cases h
end
end Go.Am
namespace Go.Am
open Go.Proofs
theorem nrm_agg (cs : List AV) : nrm (.agg cs) = .agg (cs.map nrm0) := rfl
theorem nrm_sl (x : List (List AV)) : nrm (.sl x) = .sl x := rfl
theorem nrm_bool (b : Bool) : nrm (.bool b) = .bool b := rfl
theorem nrm0_int (k : IntKind) (i : Int) : nrm0 (.int k i) = .int k i := rfl
theorem fewL_mem {L : List De} {d : De} (h : d ∈ fewL L) : d ∈ L ∧ d.t.length ≤ 8 ∧ d.c.length ≤ 8 := by
  have h1 := List.mem_filter.1 (List.mem_of_mem_take h)
  have h2 := h1.2
  simp only [okDe, Bool.and_eq_true, decide_eq_true_eq] at h2
  exact ⟨h1.1, h2⟩
theorem RelP.bareR {s : St} {l : List Nat} {rid ar : Nat} {R : List (List V × Nat)} (h : RelP s l rid ar R) : BareR R := ⟨h.ok.2.2, fun r hr => by
    obtain ⟨q, hq, rfl⟩ := List.mem_map.1 hr
    exact (h.ok.2.1 q hq).2.1⟩
/-- What is known of the two relations, side by side. -/
structure Pair (n : Nat) (N D F : Rows0) : Prop where
  nN : okRs N = true
  nD : okRs D = true
  nF : okRs F = true
  sm : smallB N D F = true
  rw : rowOkB n (D ++ F) = true
  al : (rowsV N D F).all okR = true
  ln : ∀ r ∈ F ++ (D ++ N), r.length = n
theorem pair_of {s : St} {l : List Nat} {rid n : Nat} {N D F : Rows0} (h : RelP s l rid n (relOf F D N)) (hl : F.length + (D.length + N.length) ≤ 1000) (ho : ∀ r ∈ F ++ (D ++ N), okR r = true) : Pair n N D F := by
  have hrow : ∀ r ∈ F ++ (D ++ N), r.length = n ∧ r.map bareV = r := fun r hr => by
    rw [← relOf_fst] at hr
    obtain ⟨q, hq, rfl⟩ := List.mem_map.1 hr
    have := h.ok.2.1 q hq
    exact ⟨this.1, this.2.1⟩
  refine ⟨okRs_iff.2 ⟨fun t ht => ho t (by simp [ht]), by omega⟩, okRs_iff.2 ⟨fun t ht => ho t (by simp [ht]), by omega⟩, okRs_iff.2 ⟨fun t ht => ho t (by simp [ht]), by omega⟩, smallB_iff.2 ⟨⟨by omega, by omega⟩, by omega⟩, rowOkB_iff.2 fun r hr => ?_, ?_, fun r hr => (hrow r hr).1⟩
  · have hm : r ∈ F ++ (D ++ N) := by rcases List.mem_append.1 hr with hr | hr <;> simp [hr]
    exact ⟨(hrow r hm).1, (hrow r hm).2, ho r hm⟩
  · rw [rowsV, List.append_assoc]
    exact List.all_eq_true.2 ho
def addN' (n : Nat) (N D F : Rows0) (t : List V) : Rows0 := if addOk n (relOf F D N) t then N ++ [t.map bareV] else N
theorem addR_eq (n : Nat) (N D F : Rows0) (t : List V) : addR n (relOf F D N) t = relOf F D (addN' n N D F t) := by
  unfold addR addN'
  cases addOk n (relOf F D N) t with
  | true => simp [relOf_add]
  | false => simp
theorem rAddV_eq {n : Nat} {N D F : Rows0} (hb : BareR (relOf F D N)) (hl : ∀ r ∈ F ++ (D ++ N), r.length = n) (t : List V) :
    rAddV n N D F t = .tup [.agg (refC n (addN' n N D F t) D F), .bool (addOk n (relOf F D N) t), .int .i64 (if t.length = n then 0 else 1)] := by
  have h := has_eq hb hl t
  unfold rAddV addN' addOk
  rw [h]
  by_cases hc : t.length = n
  · simp only [hc, if_true, decide_true, Bool.true_and]
    cases hasR (relOf F D N) t <;> simp
  · simp [hc]
theorem okR_bare {t : List V} (h : okR t = true) : okR (t.map bareV) = true := by
  simp only [okR, Bool.and_eq_true, decide_eq_true_eq, List.all_eq_true, List.length_map] at h ⊢
  refine ⟨h.1, fun v hv => ?_⟩
  obtain ⟨u, hu, rfl⟩ := List.mem_map.1 hv
  have := h.2 u hu
  obtain ⟨b, y, n⟩ := u
  cases b
  · show ([] : List UInt8).length < LIM
    simp only [LIM, List.length_nil]; omega
  · exact this
theorem rMatch_form {n : Nat} {N D F : Rows0} (hn : n ≤ 6) (hp : Pair n N D F) (cols : List Int) (vals : List V) (only : Bool) :
    ∃ X e, rMatchV n D F cols vals only = .tup [.sl (encD X), .int .i64 e] ∧ X.length < 268435456 ∧ ∀ t ∈ X, t.length < 1000 := by
  unfold rMatchV
  by_cases hc : cols.length = vals.length ∧ okC n cols = true
  · rw [if_pos hc]
    have hs := smallB_iff.1 hp.sm
    have hsr := srt_spec (colsF (D ++ if only then [] else F) (cols.map Int.toNat) vals)
    have hmem : ∀ x ∈ srt (colsF (D ++ if only then [] else F) (cols.map Int.toNat) vals), x ∈ colsF (D ++ if only then [] else F) (cols.map Int.toNat) vals := fun x hx => by
      have h1 : x ∈ cl x (srt (colsF (D ++ if only then [] else F) (cols.map Int.toNat) vals)) := by rw [cl_mem]; exact ⟨hx, cself x⟩
      rw [hsr.2] at h1
      have := List.mem_of_mem_take h1
      rw [cl_mem] at this
      exact this.1
    have hm2 : ∀ x ∈ colsF (D ++ if only then [] else F) (cols.map Int.toNat) vals, x ∈ D ++ F := fun x hx => by
      rw [colsF_mV] at hx
      have := (List.mem_filter.1 hx).1
      cases only
      · simpa using this
      · simp at this; simp [this]
    refine ⟨_, _, rfl, ?_, fun t ht => ?_⟩
    · have h1 := nodup_le (strR_nodup hsr.1) fun x hx => hm2 x (hmem x hx)
      simp only [List.length_append] at h1
      omega
    · have h1 := (rowOkB_iff.1 hp.rw t (hm2 t (hmem t ht))).1
      omega
  · rw [if_neg hc]
    exact ⟨[], 1, rfl, by simp, fun t ht => by cases ht⟩
section
variable {K : Nat} {gw : World} {s : St}
attribute [local simp] awanted xop zOf zrow aop ev T0 Slots.put Slots.set Slots.get awr WOk AV.may ofConst abinop aint isConst St.get_push St.get_put St.live AV.fit AV.cells AV.one fieldOf afieldAddr aload ofCells astore splice May eqres env_ti FinP FinZ FinW ares aresL ares1 Fns.addP Fns.add Fns.a0 Fns.a1 Fns.a2 Fns.a3 Fns.a4 abuiltin alenOk alen aindex elemOfT elemId abuildSlice afill chunks ard aappend isSS AV.isStr aminmax placesOf abuild afield aidx isStrD isStrDesc astrop aslice asliceOk abound arange anext aextract aunop aeq AV.ck avseq aveq aconv aconvert onB_t onB_f List.range_succ ti0 ti1 ti2 ti3 ti4 ti5 ti6 ti7 ti8 ti9 ti10 ti11 ti12 ti13 ti14 ti15 ti16 ti17 ti18 ti19 ti20 ti21 ti22 ti23 ti24 ti25 ti26 ti27 ti28 ti29 ti30 ti31 ti32 ti33 ti34 ti35 ti36 ti37 ti38 ti39 ti40 ti41 ti42 ti43 ti44 ti45 ti46 ti47 ti48 ti49 ti50 ti51 ti52 ti53 ti54 ti55 ti56 ti57 ti58 ti59 ti60 ti61 ti62 ti63 ti64 ti65 ti66 ti67 ti68 ti69 ti70 ti71 ti72 ti73 ti74 ti75 ti76 ti77 ti78 ti79 ti80 ti81 ti82 ti83 ti84 ti85 ti86 ti87 ti88 ti89 ti90 ti91 ti92 ti93 ti94 ti95 ti96 ti97 ti98 ti99 ti100 ti101 ti102 ti103 ti104 ti105 ti106 ti107 ti108 ti109 ti110 ti111 ti112 ti113 ti114 ti115 ti116 ti117 ti118 ti119 ti120 ti121 ti122 ti123 ti124 ti125 ti126 ti127 ti128 ti129 ti130 ti131 ti132 ti133 ti134 ti135 ti136 ti137 ti138 ti139 ti140 ti141 ti142 ti143 ti144 ti145 ti146 ti147
theorem W2_W1 {f : FuncId} {xs : List AV} (h : f ∉ [29, 25, 24, 27, 23, 22, 26, 21]) : W2 K gw f xs s = W1 K gw f xs s := by
  simp only [List.mem_cons, List.mem_nil_iff, or_false, not_or] at h
  obtain ⟨h1, h2, h3, h4, h5, h6, h7, h8⟩ := h
  simp only [W2, Fns.addN, Fns.addP, h1, h2, h3, h4, h5, h6, h7, if_false]
  exact Fns.ch_other h8
theorem W2_few (L : List De) (hL : L.length < 1073741824) : W2 K gw 21 [.sl (deeds L)] s = some (.sl (deeds (fewL L)), s, []) := by
  have hp : fewQ [.sl (deeds L)] s (.sl (deeds (fewL L))) s [] := by
    intro L' he
    simp only [List.cons.injEq, AV.sl.injEq, and_true] at he
    obtain rfl := deeds_inj he
    exact ⟨rfl, rfl, rfl⟩
  obtain ⟨r, s', l, h5, h6⟩ := Fns.ch_some (P := fewQ) (F := W1 K gw) (l := []) ((ft_few (K := K) (gw := gw) (s := s) L hL).wider (W' := fun i => i ∈ ([] : List Nat)) fun i h => h.elim) hp
  obtain ⟨rfl, rfl, rfl⟩ := h6 L rfl
  simp only [W2, Fns.addN, Fns.addP]
  exact h5
theorem W2_add (n : Nat) {x y z : AV} {N D F : Rows0} (hx : slOr x (encD N)) (hy : slOr y (encD D)) (hz : slOr z (encD F)) (t : List V) (hN : okRs N = true) (hD : okRs D = true) (hF : okRs F = true) (ht : okR t = true) (hl : t.length < 1073741824) :
    W2 K gw 22 [.agg [.int .i64 (n : Int), x, y, z], .sl (t.map V.cs)] s = some (rAddV n N D F t, s, []) := by
  simp only [W2, Fns.addN, Fns.addP]
  simp [nrm_agg, nrm_sl, nrm0_int, hx.nrm0, hy.nrm0, hz.nrm0, pRAdd, hN, hD, hF, ht, hl]
theorem W2_turn (n : Nat) {x y z : AV} {N D F : Rows0} (hx : slOr x (encD N)) (hy : slOr y (encD D)) (hz : slOr z (encD F)) (hs : smallB N D F = true) :
    W2 K gw 23 [.agg [.int .i64 (n : Int), x, y, z]] s = some (rTurnV n N D F, s, []) := by
  simp only [W2, Fns.addN, Fns.addP]
  simp [nrm_agg, nrm_sl, nrm0_int, hx.nrm0, hy.nrm0, hz.nrm0, pRTurn, hs]
theorem W2_rows (n : Nat) {x y z : AV} {N D F : Rows0} (hx : slOr x (encD N)) (hy : slOr y (encD D)) (hz : slOr z (encD F)) (hs : smallB N D F = true) :
    W2 K gw 26 [.agg [.int .i64 (n : Int), x, y, z]] s = some (.sl (encD (rowsV N D F)), s, []) := by
  simp only [W2, Fns.addN, Fns.addP]
  simp [nrm_agg, nrm_sl, nrm0_int, hx.nrm0, hy.nrm0, hz.nrm0, pRRows, hs]
theorem W2_all (n : Nat) {x y z : AV} {N D F : Rows0} (hx : slOr x (encD N)) (hy : slOr y (encD D)) (hz : slOr z (encD F)) (hs : smallB N D F = true) (ho : (rowsV N D F).all okR = true) :
    W2 K gw 27 [.agg [.int .i64 (n : Int), x, y, z]] s = some (.sl (encD (srt (rowsV N D F))), s, []) := by
  simp only [W2, Fns.addN, Fns.addP]
  have ho2 := List.all_eq_true.1 ho
  simp [nrm_agg, nrm_sl, nrm0_int, hx.nrm0, hy.nrm0, hz.nrm0, pRAll, hs]
  exact ho2
theorem W2_match (n : Nat) (hn : n ≤ 6) {x y z : AV} {N D F : Rows0} (hx : slOr x (encD N)) (hy : slOr y (encD D)) (hz : slOr z (encD F)) (hs : smallB N D F = true) (hr : rowOkB n (D ++ F) = true) (cols : List Int) (vals : List V) (only : Bool) (hv : okR vals = true) (hc : cols.length < 1073741824) :
    W2 K gw 24 [.agg [.int .i64 (n : Int), x, y, z], .sl (ints cols), .sl (vals.map V.cs), .bool only] s = some (rMatchV n D F cols vals only, s, []) := by
  have hn2 : (n : Int) ≤ 6 := by omega
  simp only [W2, Fns.addN, Fns.addP]
  simp [nrm_agg, nrm_sl, nrm_bool, nrm0_int, hx.nrm0, hy.nrm0, hz.nrm0, pRMatch, hs, hr, hv, hc, hn, hn2, decI_ints]
theorem W2_has (n : Nat) {x y z : AV} {N D F : Rows0} (hx : slOr x (encD N)) (hy : slOr y (encD D)) (hz : slOr z (encD F)) (t : List V) (hN : okRs N = true) (hD : okRs D = true) (hF : okRs F = true) (ht : okR t = true) :
    W2 K gw 25 [.agg [.int .i64 (n : Int), x, y, z], .sl (t.map V.cs)] s = some (.bool (hasQr N D F t), s, []) := by
  simp only [W2, Fns.addN, Fns.addP]
  simp [nrm_agg, nrm_sl, nrm0_int, hx.nrm0, hy.nrm0, hz.nrm0, pRHas, hN, hD, hF, ht]
theorem W2_sort {x : AV} {D : Rows0} (hx : slOr x (encD D)) (hl : D.length < 268435456) (ho : ∀ t ∈ D, okR t = true) : W2 K gw 29 [x] s = some (.sl (encD (srt D)), s, []) := by
  simp only [W2, Fns.addN, Fns.addP]
  simp [hx.nrm, pSrtR, hl, srt_ref]
  exact ho
set_option maxRecDepth 20000 in
set_option maxHeartbeats 16000000 in
theorem ft_Plays (hK : 0 < K) (hT : Tens gw) (a : Int) (ha0 : 0 ≤ a) (ha1 : a < 256) (L : List De) (hL : L.length < 1073741824) (hok : ∀ d ∈ L, ∀ v ∈ d.t, v.s.length < LIM) :
    FT (env K gw) NoW 6 [.int .u8 a, .sl (deeds L)] s (.bool true) s := by
  refine FT.pure (fn := Tryd.f6) (W2_ok hK hT) mixed Tryd.func6 (by kernel_rfl) (by rfl) rfl rfl (by simp) (by kernel_rfl) fun μ w => ?_
  have hsh : ∀ s2 : St, W2 K gw 9 [] s2 = some (.bool true, s2, []) := fun s2 => by
    rw [W2_W1 (by decide)]; exact W1_shown
  have hfe := W2_few (K := K) (gw := gw) (s := s) L hL
  have hQm : ∀ d ∈ fewL L, d ∈ L ∧ d.t.length ≤ 8 ∧ d.c.length ≤ 8 := fun d h => fewL_mem h
  have hQl : (fewL L).length ≤ 80 := by simp only [fewL, List.length_take]; omega
  generalize fewL L = Q at *
  obtain ⟨n, hn⟩ : ∃ n : Nat, (n : Int) = a.tmod 7 := ⟨(a.tmod 7).toNat, by
    have : 0 ≤ a.tmod 7 := Int.tmod_nonneg 7 ha0
    omega⟩
  have hn7 : n ≤ 6 := by
    have := Int.tmod_lt_of_pos a (show (0 : Int) < 7 by omega)
    omega
  obtain ⟨s1, rid, l1, hnew, hE1, hR1, hl1⟩ := Z_new (K := K) (gw := gw) (F := V2) (s := s) n hn7
  rw [← W1_Z (by decide), ← W2_W1 (by decide)] at hnew
  have hv1 := hR1.live
  have hw7 : IntKind.i64.wrap (n : Int) = (n : Int) := wrap64 (by omega) (by omega)
  have hw8 : IntKind.u8.wrap (n : Int) = (n : Int) := by
    have h1 : n < 256 := by omega
    have key : ∀ m : _root_.Fin 7, IntKind.u8.wrap ((m : Nat) : Int) = ((m : Nat) : Int) := by decide
    exact key ⟨n, by omega⟩
  have hn1 := hE1.nx
  have hlt1 : ∀ j ∈ l1, j < s1.nx := fun j hj => (hl1 j hj).2
  have hrel0 : relOf [] [] [] = [] := rfl
  have hkeep0 : RelP ((s1.push (.var 50 [.int .i64 0, .nsl, .nsl, .nsl])).put s1.nx (.var 50 [.int .i64 (n : Int), .nsl, .nsl, .nsl])) l1 rid n [] := hR1.keep (by simp) fun j hj => by
    have : ¬ j = s1.nx := by have := hlt1 j hj; omega
    simp [St.get_put, St.get_push, this]
  have hdl : (deeds Q).length = Q.length := by simp [deeds]
  repeat' (first
    | refine WP.t ?_ | refine WP.k ?_ | refine WP.e ?_ | refine Qn ?_ | refine Qr ?_ | refine Qe ?_ | refine Bn ?_ | refine Br ?_ | refine Be ?_ | refine Bx (by decide) ?_
    | (refine RS.nl ?_; refine hk _ _ ?_; clear hk k)
    | ((first | refine RS.st fun A B hA hB => ?_ | refine RQ.st fun A B hA hB => ?_); simp [hsh, hfe, ← hn, hw7, hw8, hnew, hv1, hn1, onW_t, onW_f, onV_s]; first | ((first | refine hA _ _ _ ?_ ?_ | refine hA _ _ _ ?_ (by first | exact .inl rfl | exact .inr (by decide)) ?_); (focus (simp [hsh, hfe, ← hn, hw7, hw8, hnew, hv1, hn1] <;> omega)); clear hA hB A B) | (refine hB ?_; clear hA hB A B) | (refine onV_if ?_ ?_; (focus (first | omega | (refine ⟨?_, ?_⟩ <;> omega))); simp only [onV_s]; (first | refine hA _ _ _ ?_ ?_ | refine hA _ _ _ ?_ (by first | exact .inl rfl | exact .inr (by decide)) ?_); (focus (simp [hsh, hfe, ← hn, hw7, hw8, hnew, hv1, hn1] <;> omega)); clear hA hB A B))
    | (refine RQ.nl ?_; refine hk _ _ ?_; clear hk k)
    | refine WP.sr fun k hk => ?_ | refine WP.r fun k hk => ?_
    | refine WP.sd _ rfl fun k hk => ?_ | refine WP.d _ rfl fun k hk => ?_
    | (refine WP.cc fun A B hA hB => ?_; simp [hsh, hfe, ← hn, hw7, hw8, hnew, hv1, hn1, onB_t, onB_f]; first | (refine hA ?_; clear hA hB A B) | (refine hB ?_; clear hA hB A B) | (refine onB_if (fun h => hA ?_) (fun h => hB ?_) <;> clear hA hB A B))
    | refine WP.q ?_ | refine WP.b ?_)
  generalize hxid : s1.nx = xid at *
  refine WP_loop (fun m T s' => ∃ (i : Nat) (l : List Nat) (N D F : Rows0) (x y z : AV), m + i = Q.length ∧ T.get 5 = .bool true ∧ T.get 6 = .sl (deeds Q) ∧ T.get 8 = .ptr rid 0 ∧ T.get 9 = .ptr xid 0 ∧ T.get 10 = .int .i64 i ∧
    s.nx ≤ s'.nx ∧ xid < s'.nx ∧ s'.get xid = some (.var 50 [.int .i64 (n : Int), x, y, z]) ∧ slOr x (encD N) ∧ slOr y (encD D) ∧ slOr z (encD F) ∧ RelP s' l rid n (relOf F D N) ∧ xid ∉ l ∧ (∀ j ∈ l, s.nx ≤ j) ∧
    F.length + (D.length + N.length) ≤ i ∧ ∀ r ∈ F ++ (D ++ N), okR r = true) Q.length
    ⟨0, l1, [], [], [], .nsl, .nsl, .nsl, by simp, by simp, by simp, by simp, by simp, by simp, by simp; omega, by simp; omega, by simp [St.get_put], .inr ⟨rfl, rfl⟩, .inr ⟨rfl, rfl⟩, .inr ⟨rfl, rfl⟩, hkeep0, fun hm => by have := hlt1 _ hm; omega, fun j hj => (hl1 j hj).1, by simp, fun r hr => by simp at hr⟩ ?_
  rintro m T s' ⟨i, l, N, D, F, x, y, z, hmi, g5, g6, g8, g9, g10, hnx, hxn, hxg, hx, hy, hz, hRP, hxl, hl, hlen, hokr⟩
  have hb := hRP.bareR
  by_cases hi : i < Q.length
  · have hP := pair_of hRP (by omega) hokr
    have hw : IntKind.i64.wrap ((i : Int) + 1) = (i : Int) + 1 := wrap64 (by omega) (by omega)
    have hlt : ((i : Int) < (Q.length : Int)) := by omega
    have ha3 : ∀ h : i < (deeds Q).length, (deeds Q)[i]'h = dc Q[i] := fun h => by simp [deeds]
    obtain ⟨hdL, hdt, hdc⟩ := hQm Q[i] (List.getElem_mem hi)
    have hdv := hok _ hdL
    generalize hd : Q[i] = d at *
    have hokt : okR d.t = true := by
      simp only [okR, Bool.and_eq_true, decide_eq_true_eq, List.all_eq_true]
      exact ⟨by simp only [LIM]; omega, hdv⟩
    generalize hsd : (s'.push (.var 52 [.int .i64 0, .nsl, .nsl, .bool false])).put s'.nx (.var 52 [.int .i64 d.k, .sl (d.t.map V.cs), .sl (ints d.c), .bool d.o]) = sd
    have hdn : sd.nx = s'.nx + 1 := by rw [← hsd]; simp
    have hdg : ∀ j, j < s'.nx → sd.get j = s'.get j := fun j hj => by
      have : ¬ j = s'.nx := by omega
      rw [← hsd]; simp [St.get_put, St.get_push, this]
    have hdd : sd.get s'.nx = some (.var 52 [.int .i64 d.k, .sl (d.t.map V.cs), .sl (ints d.c), .bool d.o]) := by rw [← hsd]; simp [St.get_put]
    have hlo : ∀ j ∈ l, j < s'.nx := fun j hj => (hRP.own j hj).1
    have hRd : RelP sd l rid n (relOf F D N) := hRP.keep (by omega) fun j hj => hdg j (hlo j hj)
    have hxd : sd.get xid = some (.var 50 [.int .i64 (n : Int), x, y, z]) := by rw [hdg xid hxn]; exact hxg
    have hdnl : s'.nx ∉ l := fun hm => by have := hlo _ hm; omega
    have hRl : (relOf F D N).length ≤ 100 := by rw [relOf_len]; omega
    by_cases hk0 : d.k = 0
    · have hkb : (d.k == 0) = true := by simp [hk0]
      obtain ⟨s2, ids, hadd, hids, hE2, l2, hR2, hl2⟩ := Z_add (K := K) (gw := gw) (F := V2) hK hT hRd d.t (by omega)
      rw [← W1_Z (by decide), ← W2_W1 (by decide)] at hadd
      rw [addR_eq] at hR2
      have hn2 := hE2.nx
      have hids2 : ∀ j ∈ ids, s.nx ≤ j := fun j hj => hl j (hids j hj)
      have hx2 : s2.get xid = some (.var 50 [.int .i64 (n : Int), x, y, z]) := by rw [hE2.same xid (by omega) hxl]; exact hxd
      have hd2 : s2.get s'.nx = some (.var 52 [.int .i64 d.k, .sl (d.t.map V.cs), .sl (ints d.c), .bool d.o]) := by rw [hE2.same _ (by omega) hdnl]; exact hdd
      have hra := W2_add (K := K) (gw := gw) (s := s2) n hx hy hz d.t hP.nN hP.nD hP.nF hokt (by omega)
      rw [rAddV_eq hb hP.ln] at hra
      simp only [addV] at hadd
      have hlen2 : F.length + (D.length + (addN' n N D F d.t).length) ≤ i + 1 := by
        unfold addN'
        split
        · simp; omega
        · omega
      have hok2 : ∀ r ∈ F ++ (D ++ addN' n N D F d.t), okR r = true := fun r hr => by
        unfold addN' at hr
        split at hr
        · simp only [List.mem_append, List.mem_singleton] at hr
          rcases hr with hr | hr | hr | rfl
          · exact hokr r (by simp [hr])
          · exact hokr r (by simp [hr])
          · exact hokr r (by simp [hr])
          · exact okR_bare hokt
        · exact hokr r hr
      have hP2 := pair_of hR2 (by omega) hok2
      have hb2 := hR2.bareR
      generalize addN' n N D F d.t = N' at *
      generalize addOk n (relOf F D N) d.t = ab at *
      generalize (if d.t.length = n then (0 : Int) else 1) = ae at *
      have hxn2 : xid < s2.nx := by omega
      generalize hs3 : ((s2.push (.var 50 [.int .i64 0, .nsl, .nsl, .nsl])).put s2.nx (.var 50 [.int .i64 (n : Int), .sl (encD N'), .sl (encD D), .sl (encD F)])).put xid (.var 50 [.int .i64 (n : Int), .sl (encD N'), .sl (encD D), .sl (encD F)]) = s3
      have h3n : s3.nx = s2.nx + 1 := by rw [← hs3]; simp
      have h3x : s3.get xid = some (.var 50 [.int .i64 (n : Int), .sl (encD N'), .sl (encD D), .sl (encD F)]) := by rw [← hs3]; simp [St.get_put]
      have h3g : ∀ j, j < s2.nx → j ≠ xid → s3.get j = s2.get j := fun j hj hne => by
        have : ¬ j = s2.nx := by omega
        rw [← hs3]; simp [St.get_put, St.get_push, this, hne]
      have h3d : s3.get s'.nx = some (.var 52 [.int .i64 d.k, .sl (d.t.map V.cs), .sl (ints d.c), .bool d.o]) := by rw [h3g _ (by omega) (by omega)]; exact hd2
      have hxl2 : xid ∉ l2 := fun hm => (hl2 _ hm).elim hxl fun h => by omega
      have hR3 : RelP s3 l2 rid n (relOf F D N') := hR2.keep (by omega) fun j hj => h3g j (hR2.own j hj).1 fun e => hxl2 (e ▸ hj)
      have hhas := Z_has (K := K) (gw := gw) (F := V2) hK hT hR3 d.t (by omega) (by rw [relOf_len]; omega)
      have hlenq := Z_len (K := K) (gw := gw) (F := V2) hK hT hR3
      rw [← W1_Z (by decide), ← W2_W1 (by decide)] at hhas hlenq
      have hrh := W2_has (K := K) (gw := gw) (s := s3) n (x := .sl (encD N')) (y := .sl (encD D)) (z := .sl (encD F)) (.inl rfl) (.inl rfl) (.inl rfl) d.t hP2.nN hP2.nD hP2.nF hokt
      rw [has_eq hb2 hP2.ln] at hrh
      have hrr := W2_rows (K := K) (gw := gw) (s := s3) n (x := .sl (encD N')) (y := .sl (encD D)) (z := .sl (encD F)) (.inl rfl) (.inl rfl) (.inl rfl) hP2.sm
      have hrl : (encD (rowsV N' D F)).length = (relOf F D N').length := by rw [relOf_len]; simp [encD, rowsV] <;> omega
      generalize (decide (d.t.length = n) && hasR (relOf F D N') d.t) = hbq at *
      have hxs : s.nx ≤ xid := by omega
      have hnl2 : ¬ s'.nx = s2.nx := by omega
      have hxne : ¬ xid = s2.nx := by omega
      repeat' (first
        | refine WP.t ?_ | refine WP.k ?_ | refine WP.e ?_ | refine Qn ?_ | refine Qr ?_ | refine Qe ?_ | refine Bn ?_ | refine Br ?_ | refine Be ?_ | refine Bx (by decide) ?_
        | (refine RS.nl ?_; refine hk _ _ ?_; clear hk k)
        | ((first | refine RS.st fun A B hA hB => ?_ | refine RQ.st fun A B hA hB => ?_); simp [g5, g6, g8, g9, g10, hlt, hi, hdl, ha3, dc, hsd, hdd, hkb, hadd, hids2, hx2, hd2, hra, refC, hs3, h3x, h3d, hhas, hlenq, hrh, hrr, hrl, hw, hxs, hnl2, hxne, hxn2, onW_t, onW_f, onV_s]; first | ((first | refine hA _ _ _ ?_ ?_ | refine hA _ _ _ ?_ (by first | exact .inl rfl | exact .inr (by decide)) ?_); (focus (simp [g5, g6, g8, g9, g10, hlt, hi, hdl, ha3, dc, hsd, hdd, hkb, hadd, hids2, hx2, hd2, hra, refC, hs3, h3x, h3d, hhas, hlenq, hrh, hrr, hrl, hw, hxs, hnl2, hxne, hxn2] <;> omega)); clear hA hB A B) | (refine hB ?_; clear hA hB A B) | (refine onV_if ?_ ?_; (focus (first | omega | (refine ⟨?_, ?_⟩ <;> omega))); simp only [onV_s]; (first | refine hA _ _ _ ?_ ?_ | refine hA _ _ _ ?_ (by first | exact .inl rfl | exact .inr (by decide)) ?_); (focus (simp [g5, g6, g8, g9, g10, hlt, hi, hdl, ha3, dc, hsd, hdd, hkb, hadd, hids2, hx2, hd2, hra, refC, hs3, h3x, h3d, hhas, hlenq, hrh, hrr, hrl, hw, hxs, hnl2, hxne, hxn2] <;> omega)); clear hA hB A B))
        | (refine RQ.nl ?_; refine hk _ _ ?_; clear hk k)
        | refine WP.sr fun k hk => ?_ | refine WP.r fun k hk => ?_
        | refine WP.sd _ rfl fun k hk => ?_ | refine WP.d _ rfl fun k hk => ?_
        | (refine WP.cc fun A B hA hB => ?_; simp [g5, g6, g8, g9, g10, hlt, hi, hdl, ha3, dc, hsd, hdd, hkb, hadd, hids2, hx2, hd2, hra, refC, hs3, h3x, h3d, hhas, hlenq, hrh, hrr, hrl, hw, hxs, hnl2, hxne, hxn2, onB_t, onB_f]; first | (refine hA ?_; clear hA hB A B) | (refine hB ?_; clear hA hB A B) | (refine onB_if (fun h => hA ?_) (fun h => hB ?_) <;> clear hA hB A B))
        | refine WP.q ?_ | refine WP.b ?_)
      exact ⟨m - 1, by omega, i + 1, l2, N', D, F, .sl (encD N'), .sl (encD D), .sl (encD F), by omega, by simp [g5], by simp [g6], by simp [g8], by simp [g9], by simp, by omega, by omega, h3x, .inl rfl, .inl rfl, .inl rfl, hR3, hxl2, fun j hj => (hl2 j hj).elim (hl j) fun h => by omega, hlen2, hok2⟩
    have hkb : (d.k == 0) = false := beq_eq_false_iff_ne.2 hk0
    by_cases hk1 : d.k = 1
    · have hkc : (d.k == 1) = true := by simp [hk1]
      obtain ⟨s2, ids, htu, hids, hE2, l2, hR2, hl2⟩ := Z_turn (K := K) (gw := gw) (F := V2) hK hT hRd (by omega)
      rw [← W1_Z (by decide), ← W2_W1 (by decide), relOf_tr, relOf_any] at htu
      rw [relOf_tr] at hR2
      have hn2 := hE2.nx
      have hids2 : ∀ j ∈ ids, s.nx ≤ j := fun j hj => hl j (hids j hj)
      have hx2 : s2.get xid = some (.var 50 [.int .i64 (n : Int), x, y, z]) := by rw [hE2.same xid (by omega) hxl]; exact hxd
      have hd2 : s2.get s'.nx = some (.var 52 [.int .i64 d.k, .sl (d.t.map V.cs), .sl (ints d.c), .bool d.o]) := by rw [hE2.same _ (by omega) hdnl]; exact hdd
      have hra := W2_turn (K := K) (gw := gw) (s := s2) n hx hy hz hP.sm
      unfold rTurnV at hra
      have hlen2 : (F ++ D).length + (N.length + ([] : Rows0).length) ≤ i + 1 := by simp; omega
      have hok2 : ∀ r ∈ (F ++ D) ++ (N ++ ([] : Rows0)), okR r = true := fun r hr => hokr r (by
        simp only [List.append_nil, List.mem_append] at hr ⊢
        rcases hr with (hr | hr) | hr
        · exact .inl hr
        · exact .inr (.inl hr)
        · exact .inr (.inr hr))
      have hP2 := pair_of hR2 (by omega) hok2
      have hb2 := hR2.bareR
      generalize hF' : F ++ D = F' at *
      generalize hN' : ([] : Rows0) = N' at *
      have hxn2 : xid < s2.nx := by omega
      generalize hs3 : ((s2.push (.var 50 [.int .i64 0, .nsl, .nsl, .nsl])).put s2.nx (.var 50 [.int .i64 (n : Int), .sl (encD N'), .sl (encD N), .sl (encD F')])).put xid (.var 50 [.int .i64 (n : Int), .sl (encD N'), .sl (encD N), .sl (encD F')]) = s3
      have h3n : s3.nx = s2.nx + 1 := by rw [← hs3]; simp
      have h3x : s3.get xid = some (.var 50 [.int .i64 (n : Int), .sl (encD N'), .sl (encD N), .sl (encD F')]) := by rw [← hs3]; simp [St.get_put]
      have h3g : ∀ j, j < s2.nx → j ≠ xid → s3.get j = s2.get j := fun j hj hne => by
        have : ¬ j = s2.nx := by omega
        rw [← hs3]; simp [St.get_put, St.get_push, this, hne]
      have h3d : s3.get s'.nx = some (.var 52 [.int .i64 d.k, .sl (d.t.map V.cs), .sl (ints d.c), .bool d.o]) := by rw [h3g _ (by omega) (by omega)]; exact hd2
      have hxl2 : xid ∉ l2 := fun hm => (hl2 _ hm).elim hxl fun h => by omega
      have hR3 : RelP s3 l2 rid n (relOf F' N N') := hR2.keep (by omega) fun j hj => h3g j (hR2.own j hj).1 fun e => hxl2 (e ▸ hj)
      have hhas := Z_has (K := K) (gw := gw) (F := V2) hK hT hR3 d.t (by omega) (by rw [relOf_len]; omega)
      have hlenq := Z_len (K := K) (gw := gw) (F := V2) hK hT hR3
      rw [← W1_Z (by decide), ← W2_W1 (by decide)] at hhas hlenq
      have hrh := W2_has (K := K) (gw := gw) (s := s3) n (x := .sl (encD N')) (y := .sl (encD N)) (z := .sl (encD F')) (.inl rfl) (.inl rfl) (.inl rfl) d.t hP2.nN hP2.nD hP2.nF hokt
      rw [has_eq hb2 hP2.ln] at hrh
      have hrr := W2_rows (K := K) (gw := gw) (s := s3) n (x := .sl (encD N')) (y := .sl (encD N)) (z := .sl (encD F')) (.inl rfl) (.inl rfl) (.inl rfl) hP2.sm
      have hrl : (encD (rowsV N' N F')).length = (relOf F' N N').length := by rw [relOf_len]; simp [encD, rowsV] <;> omega
      generalize (decide (d.t.length = n) && hasR (relOf F' N N') d.t) = hbq at *
      have hxs : s.nx ≤ xid := by omega
      have hnl2 : ¬ s'.nx = s2.nx := by omega
      have hxne : ¬ xid = s2.nx := by omega
      generalize (decide (0 < (N.length : Int))) = ab at *
      repeat' (first
        | refine WP.t ?_ | refine WP.k ?_ | refine WP.e ?_ | refine Qn ?_ | refine Qr ?_ | refine Qe ?_ | refine Bn ?_ | refine Br ?_ | refine Be ?_ | refine Bx (by decide) ?_
        | (refine RS.nl ?_; refine hk _ _ ?_; clear hk k)
        | ((first | refine RS.st fun A B hA hB => ?_ | refine RQ.st fun A B hA hB => ?_); simp [g5, g6, g8, g9, g10, hlt, hi, hdl, ha3, dc, hsd, hdd, hkb, hkc, htu, hids2, hx2, hd2, hra, refC, hs3, h3x, h3d, hhas, hlenq, hrh, hrr, hrl, hw, hxs, hnl2, hxne, hxn2, onW_t, onW_f, onV_s]; first | ((first | refine hA _ _ _ ?_ ?_ | refine hA _ _ _ ?_ (by first | exact .inl rfl | exact .inr (by decide)) ?_); (focus (simp [g5, g6, g8, g9, g10, hlt, hi, hdl, ha3, dc, hsd, hdd, hkb, hkc, htu, hids2, hx2, hd2, hra, refC, hs3, h3x, h3d, hhas, hlenq, hrh, hrr, hrl, hw, hxs, hnl2, hxne, hxn2] <;> omega)); clear hA hB A B) | (refine hB ?_; clear hA hB A B) | (refine onV_if ?_ ?_; (focus (first | omega | (refine ⟨?_, ?_⟩ <;> omega))); simp only [onV_s]; (first | refine hA _ _ _ ?_ ?_ | refine hA _ _ _ ?_ (by first | exact .inl rfl | exact .inr (by decide)) ?_); (focus (simp [g5, g6, g8, g9, g10, hlt, hi, hdl, ha3, dc, hsd, hdd, hkb, hkc, htu, hids2, hx2, hd2, hra, refC, hs3, h3x, h3d, hhas, hlenq, hrh, hrr, hrl, hw, hxs, hnl2, hxne, hxn2] <;> omega)); clear hA hB A B))
        | (refine RQ.nl ?_; refine hk _ _ ?_; clear hk k)
        | refine WP.sr fun k hk => ?_ | refine WP.r fun k hk => ?_
        | refine WP.sd _ rfl fun k hk => ?_ | refine WP.d _ rfl fun k hk => ?_
        | (refine WP.cc fun A B hA hB => ?_; simp [g5, g6, g8, g9, g10, hlt, hi, hdl, ha3, dc, hsd, hdd, hkb, hkc, htu, hids2, hx2, hd2, hra, refC, hs3, h3x, h3d, hhas, hlenq, hrh, hrr, hrl, hw, hxs, hnl2, hxne, hxn2, onB_t, onB_f]; first | (refine hA ?_; clear hA hB A B) | (refine hB ?_; clear hA hB A B) | (refine onB_if (fun h => hA ?_) (fun h => hB ?_) <;> clear hA hB A B))
        | refine WP.q ?_ | refine WP.b ?_)
      exact ⟨m - 1, by omega, i + 1, l2, N', N, F', .sl (encD N'), .sl (encD N), .sl (encD F'), by omega, by simp [g5], by simp [g6], by simp [g8], by simp [g9], by simp, by omega, by omega, h3x, .inl rfl, .inl rfl, .inl rfl, hR3, hxl2, fun j hj => (hl2 j hj).elim (hl j) fun h => by omega, hlen2, hok2⟩
    · have hkc : (d.k == 1) = false := beq_eq_false_iff_ne.2 hk1
      have hma := Z_match (K := K) (gw := gw) (F := V2) hK hT hRd (by omega) d.c d.t d.o (by omega) (.inl rfl) (.inl rfl)
      rw [← W1_Z (by decide), ← W2_W1 (by decide), match_eq hb] at hma
      have hra := W2_match (K := K) (gw := gw) (s := sd) n hn7 hx hy hz hP.sm hP.rw d.c d.t d.o hokt (by omega)
      obtain ⟨X, e, hXe, hX1, hX2⟩ := rMatch_form hn7 hP d.c d.t d.o
      rw [hXe] at hma hra
      have hro := fun s3 : St => W1_rows (K := K) (gw := gw) (s := s3) X hX1 hX2
      have hro2 : ∀ s3 : St, W2 K gw 14 [.sl (encD X), .sl (encD X)] s3 = some (.bool true, s3, []) := fun s3 => by rw [W2_W1 (by decide)]; exact hro s3
      have hhas := Z_has (K := K) (gw := gw) (F := V2) hK hT hRd d.t (by omega) (by omega)
      have hlenq := Z_len (K := K) (gw := gw) (F := V2) hK hT hRd
      rw [← W1_Z (by decide), ← W2_W1 (by decide)] at hhas hlenq
      have hrh := W2_has (K := K) (gw := gw) (s := sd) n hx hy hz d.t hP.nN hP.nD hP.nF hokt
      rw [has_eq hb hP.ln] at hrh
      have hrr := W2_rows (K := K) (gw := gw) (s := sd) n hx hy hz hP.sm
      have hrl : (encD (rowsV N D F)).length = (relOf F D N).length := by rw [relOf_len]; simp [encD, rowsV] <;> omega
      generalize (decide (d.t.length = n) && hasR (relOf F D N) d.t) = hbq at *
      repeat' (first
        | refine WP.t ?_ | refine WP.k ?_ | refine WP.e ?_ | refine Qn ?_ | refine Qr ?_ | refine Qe ?_ | refine Bn ?_ | refine Br ?_ | refine Be ?_ | refine Bx (by decide) ?_
        | (refine RS.nl ?_; refine hk _ _ ?_; clear hk k)
        | ((first | refine RS.st fun A B hA hB => ?_ | refine RQ.st fun A B hA hB => ?_); simp [g5, g6, g8, g9, g10, hlt, hi, hdl, ha3, dc, hsd, hdd, hkb, hkc, hma, hra, hro2, hxd, hhas, hlenq, hrh, hrr, hrl, hw, onW_t, onW_f, onV_s]; first | ((first | refine hA _ _ _ ?_ ?_ | refine hA _ _ _ ?_ (by first | exact .inl rfl | exact .inr (by decide)) ?_); (focus (simp [g5, g6, g8, g9, g10, hlt, hi, hdl, ha3, dc, hsd, hdd, hkb, hkc, hma, hra, hro2, hxd, hhas, hlenq, hrh, hrr, hrl, hw] <;> omega)); clear hA hB A B) | (refine hB ?_; clear hA hB A B) | (refine onV_if ?_ ?_; (focus (first | omega | (refine ⟨?_, ?_⟩ <;> omega))); simp only [onV_s]; (first | refine hA _ _ _ ?_ ?_ | refine hA _ _ _ ?_ (by first | exact .inl rfl | exact .inr (by decide)) ?_); (focus (simp [g5, g6, g8, g9, g10, hlt, hi, hdl, ha3, dc, hsd, hdd, hkb, hkc, hma, hra, hro2, hxd, hhas, hlenq, hrh, hrr, hrl, hw] <;> omega)); clear hA hB A B))
        | (refine RQ.nl ?_; refine hk _ _ ?_; clear hk k)
        | refine WP.sr fun k hk => ?_ | refine WP.r fun k hk => ?_
        | refine WP.sd _ rfl fun k hk => ?_ | refine WP.d _ rfl fun k hk => ?_
        | (refine WP.cc fun A B hA hB => ?_; simp [g5, g6, g8, g9, g10, hlt, hi, hdl, ha3, dc, hsd, hdd, hkb, hkc, hma, hra, hro2, hxd, hhas, hlenq, hrh, hrr, hrl, hw, onB_t, onB_f]; first | (refine hA ?_; clear hA hB A B) | (refine hB ?_; clear hA hB A B) | (refine onB_if (fun h => hA ?_) (fun h => hB ?_) <;> clear hA hB A B))
        | refine WP.q ?_ | refine WP.b ?_)
      exact ⟨m - 1, by omega, i + 1, l, N, D, F, x, y, z, by omega, by simp [g5], by simp [g6], by simp [g8], by simp [g9], by simp, by omega, by omega, hxd, hx, hy, hz, hRd, hxl, hl, by omega, hokr⟩
  · have hlt : ¬ ((i : Int) < (Q.length : Int)) := by omega
    have hP := pair_of hRP (by omega) hokr
    have hall := Z_all (K := K) (gw := gw) (F := V2) hK hT hRP (by rw [relOf_len]; omega)
    have hdel := Z_delta (K := K) (gw := gw) (F := V2) hK hT hRP (by rw [relOf_len]; omega)
    rw [← W1_Z (by decide), ← W2_W1 (by decide)] at hall hdel
    have hba := bareR_sel hb (fun _ => true)
    have hbd := bareR_sel hb isDelta
    rw [relOf_all] at hall hba
    rw [relOf_delta] at hdel hbd
    have hra := W2_all (K := K) (gw := gw) (s := s') n hx hy hz hP.sm hP.al
    have hso := W2_sort (K := K) (gw := gw) (s := s') hy (by omega) fun t ht => hokr t (by simp [ht])
    have hr1 : W2 K gw 14 [.sl (encD (srt (rowsV N D F))), .sl (encD (srt (rowsV N D F)))] s' = some (.bool true, s', []) := by
      rw [W2_W1 (by decide)]
      refine W1_rows _ (by rw [srt_len hba]; simp [rowsV]; omega) fun t ht => ?_
      have := (srt_mem hba t).1 ht
      rw [rowsV, List.append_assoc] at this
      have := hP.ln t this
      omega
    have hr2 : W2 K gw 14 [.sl (encD (srt D)), .sl (encD (srt D))] s' = some (.bool true, s', []) := by
      rw [W2_W1 (by decide)]
      refine W1_rows _ (by rw [srt_len hbd]; omega) fun t ht => ?_
      have := (srt_mem hbd t).1 ht
      have := hP.ln t (by simp [this])
      omega
    repeat' (first
      | refine WP.t ?_ | refine WP.k ?_ | refine WP.e ?_ | refine Qn ?_ | refine Qr ?_ | refine Qe ?_ | refine Bn ?_ | refine Br ?_ | refine Be ?_ | refine Bx (by decide) ?_
      | (refine RS.nl ?_; refine hk _ _ ?_; clear hk k)
      | ((first | refine RS.st fun A B hA hB => ?_ | refine RQ.st fun A B hA hB => ?_); simp [g5, g6, g8, g9, g10, hlt, hi, hdl, hall, hdel, hra, hso, hr1, hr2, hxg, onW_t, onW_f, onV_s]; first | ((first | refine hA _ _ _ ?_ ?_ | refine hA _ _ _ ?_ (by first | exact .inl rfl | exact .inr (by decide)) ?_); (focus (simp [g5, g6, g8, g9, g10, hlt, hi, hdl, hall, hdel, hra, hso, hr1, hr2, hxg] <;> omega)); clear hA hB A B) | (refine hB ?_; clear hA hB A B) | (refine onV_if ?_ ?_; (focus (first | omega | (refine ⟨?_, ?_⟩ <;> omega))); simp only [onV_s]; (first | refine hA _ _ _ ?_ ?_ | refine hA _ _ _ ?_ (by first | exact .inl rfl | exact .inr (by decide)) ?_); (focus (simp [g5, g6, g8, g9, g10, hlt, hi, hdl, hall, hdel, hra, hso, hr1, hr2, hxg] <;> omega)); clear hA hB A B))
      | (refine RQ.nl ?_; refine hk _ _ ?_; clear hk k)
      | refine WP.sr fun k hk => ?_ | refine WP.r fun k hk => ?_
      | refine WP.sd _ rfl fun k hk => ?_ | refine WP.d _ rfl fun k hk => ?_
      | (refine WP.cc fun A B hA hB => ?_; simp [g5, g6, g8, g9, g10, hlt, hi, hdl, hall, hdel, hra, hso, hr1, hr2, hxg, onB_t, onB_f]; first | (refine hA ?_; clear hA hB A B) | (refine hB ?_; clear hA hB A B) | (refine onB_if (fun h => hA ?_) (fun h => hB ?_) <;> clear hA hB A B))
      | refine WP.q ?_ | refine WP.b ?_)
    simp
end
end Go.Am
