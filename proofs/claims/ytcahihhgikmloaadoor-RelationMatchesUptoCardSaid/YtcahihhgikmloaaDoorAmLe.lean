/- Part of the proof: abstract values over the given model of Go (L5). Conditions: none of its own; see the statement in the seat's Rows text. -/
import Derived.Test.YtcahihhgikmloaaDoorAmLd
set_option linter.unusedSimpArgs false
set_option linter.unusedVariables false
set_option linter.unusedSectionVars false
namespace Go.Am
open Go.Proofs
def atQ (cn : Nat) (v : V) (r : List V) : Bool := decide (r[cn]? = some (bareV v))
theorem sel_filter {R : List (List V × Nat)} {p : List V × Nat → Bool} {q : List V → Bool} (h : ∀ r ∈ R, p r = q r.1) : Sel p R = (R.map (·.1)).filter q := by
  unfold Sel
  rw [List.filter_map, List.filter_congr h]
  rfl
theorem filter_one {D : Rows0} (hn : D.Nodup) {a : List V} (ha : a ∈ D) {p : List V → Bool} (hp : ∀ r ∈ D, p r = true ↔ r = a) : D.filter p = [a] := by
  induction D with
  | nil => cases ha
  | cons x D ih =>
    obtain ⟨h1, h2⟩ := List.nodup_cons.1 hn
    by_cases e : x = a
    · subst e
      have : p x = true := (hp x (by simp)).2 rfl
      rw [List.filter_cons_of_pos this]
      have hz : D.filter p = [] := List.filter_eq_nil_iff.2 fun r hr hpr => by
        have := (hp r (by simp [hr])).1 hpr
        exact h1 (this ▸ hr)
      rw [hz]
    · have : ¬ p x = true := fun h => e ((hp x (by simp)).1 h)
      rw [List.filter_cons_of_neg this]
      refine ih h2 ?_ fun r hr => hp r (by simp [hr])
      rcases List.mem_cons.1 ha with h | h
      · exact absurd h.symm e
      · exact h
theorem filter_get {A : Rows0} {q : List V → Bool} {i : Nat} (h : i < A.length) (hq : q A[i] = true) : (A.filter q)[((A.take i).filter q).length]? = some A[i] := by
  have e : A = A.take i ++ A[i] :: A.drop (i + 1) := by rw [← List.drop_eq_getElem_cons h, List.take_append_drop]
  have e2 : A.filter q = (A.take i).filter q ++ A[i] :: (A.drop (i + 1)).filter q := by
    conv => lhs; rw [e]
    rw [List.filter_append, List.filter_cons_of_pos hq]
  rw [e2, List.getElem?_append_right (Nat.le_refl _), Nat.sub_self]
  rfl
/-- What is known of a row of a relation of pairs. -/
theorem row_facts {R1 : List (List V × Nat)} (hb : BareR R1) (h2 : ∀ r ∈ R1, r.1.length = 2) (hag : ∀ r ∈ R1, r.2 = 1) (cn : Nat) (hcn : cn = 0 ∨ cn = 1) (v : V) {a : List V} (ha : a ∈ srt (Sel (fun _ => true) R1)) :
    ∃ u0 u1 w, a = [u0, u1] ∧ (cn = 0 → w = u0) ∧ (cn = 1 → w = u1) ∧ atQ cn v a = decide (cmpT [w] [v] = 0) ∧ w ∈ a ∧ srt (Sel (matQ [0, 1] a false) R1) = [a] ∧ hasR R1 a = true := by
  have hm : a ∈ R1.map (·.1) := by rw [← sel_all]; exact (srt_mem (bareR_sel hb _) a).1 ha
  obtain ⟨r, hr, hra⟩ := List.mem_map.1 hm
  have hl := h2 r hr
  have hbare : a.map bareV = a := hb.bare a hm
  rw [hra] at hl
  match a, hl, hbare, hm with
  | [u0, u1], _, hbare, hm =>
    simp only [List.map_cons, List.map_nil, List.cons.injEq, and_true] at hbare
    obtain ⟨hb0, hb1⟩ := hbare
    have hown : srt (Sel (matQ [0, 1] [u0, u1] false) R1) = [[u0, u1]] := by
      rw [sel_filter (q := fun r => mV r [0, 1] [u0, u1]) fun r hr => by rw [matQ, hag r hr]; simp [ageOk]]
      rw [srt_filter hb]
      refine filter_one (srt_bare hb).nd ((srt_mem hb _).2 hm) fun x hx => ?_
      have hx2 := (srt_mem hb x).1 hx
      obtain ⟨rx, hrx, hrxe⟩ := List.mem_map.1 hx2
      have hlx := h2 rx hrx
      rw [hrxe] at hlx
      match x, hlx with
      | [x0, x1], _ => simp [mV, hb0, hb1]
    have hhas : hasR R1 [u0, u1] = true := by
      simp only [hasR, decide_eq_true_eq, List.map_cons, List.map_nil, hb0, hb1]
      exact hm
    have hc1 : ∀ w u : V, cmpT [w] [u] = 0 ↔ bareV w = bareV u := fun w u => by
      rw [cmpT_bare]; simp
    rcases hcn with rfl | rfl
    · refine ⟨u0, u1, u0, rfl, fun _ => rfl, fun h => by omega, ?_, by simp, hown, hhas⟩
      simp [atQ, hc1, hb0]
    · refine ⟨u0, u1, u1, rfl, fun h => by omega, fun _ => rfl, ?_, by simp, hown, hhas⟩
      simp [atQ, hc1, hb1]
section
variable {K : Nat} {gw : World} {s : St}
attribute [local simp] awanted xop zOf zrow aop ev T0 Slots.put Slots.set Slots.get awr WOk AV.may ofConst abinop aint isConst St.get_push St.get_put St.live AV.fit AV.cells AV.one fieldOf afieldAddr aload ofCells astore splice May eqres env_ti FinP FinZ FinW ares aresL ares1 Fns.addP Fns.add Fns.a0 Fns.a1 Fns.a2 Fns.a3 Fns.a4 abuiltin alenOk alen aindex elemOfT elemId abuildSlice afill chunks ard aappend isSS AV.isStr aminmax placesOf abuild afield aidx isStrD isStrDesc astrop aslice asliceOk abound arange anext aextract aunop aeq AV.ck avseq aveq aconv aconvert onB_t onB_f List.range_succ ti0 ti1 ti2 ti3 ti4 ti5 ti6 ti7 ti8 ti9 ti10 ti11 ti12 ti13 ti14 ti15 ti16 ti17 ti18 ti19 ti20 ti21 ti22 ti23 ti24 ti25 ti26 ti27 ti28 ti29 ti30 ti31 ti32 ti33 ti34 ti35 ti36 ti37 ti38 ti39 ti40 ti41 ti42 ti43 ti44 ti45 ti46 ti47 ti48 ti49 ti50 ti51 ti52 ti53 ti54 ti55 ti56 ti57 ti58 ti59 ti60 ti61 ti62 ti63 ti64 ti65 ti66 ti67 ti68 ti69 ti70 ti71 ti72 ti73 ti74 ti75 ti76 ti77 ti78 ti79 ti80 ti81 ti82 ti83 ti84 ti85 ti86 ti87 ti88 ti89 ti90 ti91 ti92 ti93 ti94 ti95 ti96 ti97 ti98 ti99 ti100 ti101 ti102 ti103 ti104 ti105 ti106 ti107 ti108 ti109 ti110 ti111 ti112 ti113 ti114 ti115 ti116 ti117 ti118 ti119 ti120 ti121 ti122 ti123 ti124 ti125 ti126 ti127 ti128 ti129 ti130 ti131 ti132 ti133 ti134 ti135 ti136 ti137 ti138 ti139 ti140 ti141 ti142 ti143 ti144 ti145 ti146 ti147
theorem W1_same (x : List V) (hx : x.length < LIM) : W1 K gw 20 [.sl (x.map V.cs), .sl (x.map V.cs)] s = some (.bool true, s, []) := by
  rw [W1_Z (by decide), Z_base (by decide)]
  simp only [V2, V1, V0, F17, Fns.addP]
  simp [pSameT, hx]
set_option maxRecDepth 20000 in
set_option maxHeartbeats 8000000 in
theorem ft_Matches (hK : 0 < K) (hT : Tens gw) (L : List (V × V)) (v : V) (second : Bool) (hL : L.length < 1073741824) (hv : v.s.length < LIM) (hok : ∀ p ∈ L, p.1.s.length < LIM ∧ p.2.s.length < LIM) :
    FT (env K gw) NoW 5 [.sl (pairs L), .agg v.cs, .bool second] s (.bool true) s := by
  refine FT.pure (fn := Tryd.f5) (W1_ok hK hT) mixed Tryd.func5 (by kernel_rfl) (by rfl) rfl rfl (by simp) (by kernel_rfl) fun μ w => ?_
  have hsh := fun s2 : St => W1_shown (K := K) (gw := gw) (s := s2)
  generalize hs0 : s.push (.var 25 v.cs) = s0
  have hn0 : s0.nx = s.nx + 1 := by rw [← hs0]; simp
  have hg0 : s0.get s.nx = some (.var 25 v.cs) := by rw [← hs0]; simp [St.get_push]
  obtain ⟨s1, rid, l1, hfi, hE1, hR1, hl1⟩ := W1_filled (K := K) (gw := gw) (s := s0) hK hT L hL
  have hn1 := hE1.nx
  have hv1 := hR1.live
  have hag0 := fill_age (L.take 40)
  have hfl := fillR_len (L.take 40)
  have htl : (L.take 40).length ≤ 40 := by simp; omega
  have hstr : ∀ r ∈ (fillR (L.take 40)).map (·.1), ∀ u ∈ r, u.s.length < LIM := fun r hr u hu => by
    obtain ⟨p, hp, rfl⟩ := (fillR_mem _ r).1 hr
    obtain ⟨h1, h2⟩ := hok p (List.mem_of_mem_take hp)
    have key : ∀ x : V, x.s.length < LIM → (bareV x).s.length < LIM := fun x hx => by
      obtain ⟨b, y, n⟩ := x
      cases b
      · show ([] : List UInt8).length < LIM
        simp only [LIM, List.length_nil]; omega
      · simpa [bareV] using hx
    simp only [pr, List.map_cons, List.map_nil, List.mem_cons, List.mem_nil_iff, or_false] at hu
    rcases hu with rfl | rfl
    · exact key _ h1
    · exact key _ h2
  generalize hR0 : fillR (L.take 40) = R0 at *
  obtain ⟨s2, ids2, htu2, hids2, hE2, l2, hR2, hl2⟩ := Z_turn (K := K) (gw := gw) (F := V2) hK hT hR1 (by omega)
  have hb2 : ∀ j ∈ ids2, s.nx ≤ j := fun j hj => by have := (hl1 j (hids2 j hj)).1; omega
  have hag1 : ∀ r ∈ R0.map tr, r.2 = 1 := fun r hr => by
    obtain ⟨q, hq, rfl⟩ := List.mem_map.1 hr
    simp [tr, hag0 q hq]
  have hl1' : (R0.map tr).length = R0.length := by simp
  have hmap : (R0.map tr).map (·.1) = R0.map (·.1) := by rw [List.map_map]; rfl
  rw [← hmap] at hstr
  generalize hR1e : R0.map tr = R1 at *
  have hga : s2.get s.nx = some (.var 25 [.bool v.b, .str v.s, .int .i64 v.n]) := by
    rw [hE2.same _ (by omega) fun hm => by have := (hl1 _ hm).1; omega, hE1.same _ (by omega) (by simp)]
    exact hg0
  have hbr := hR2.bareR
  have h2l : ∀ r ∈ R1, r.1.length = 2 := fun r hr => (hR2.ok.2.1 r hr).1
  obtain ⟨cn, hcn⟩ : ∃ cn : Nat, cn = 0 ∧ second = false ∨ cn = 1 ∧ second = true := by
    cases second
    · exact ⟨0, .inl ⟨rfl, rfl⟩⟩
    · exact ⟨1, .inr ⟨rfl, rfl⟩⟩
  have hcn01 : cn = 0 ∨ cn = 1 := hcn.imp (fun h => h.1) fun h => h.1
  have hm1 := Z_match (K := K) (gw := gw) (F := V2) hK hT hR2 (by omega) [(cn : Int)] [v] false (by simp) (.inl rfl) (.inl rfl)
  have hm2 := Z_match (K := K) (gw := gw) (F := V2) hK hT hR2 (by omega) [2] [v] false (by simp) (.inl rfl) (.inl rfl)
  have hm3 := Z_match (K := K) (gw := gw) (F := V2) hK hT hR2 (by omega) [0] [] false (by simp) (.inl rfl) (.inr ⟨rfl, rfl⟩)
  have e1 : matchV 2 R1 [(cn : Int)] [v] false = .tup [.sl (encD ((srt (Sel (fun _ => true) R1)).filter (atQ cn v))), .int .i64 0] := by
    have hc : okC 2 [(cn : Int)] = true := by rcases hcn01 with rfl | rfl <;> rfl
    rw [matchV, if_pos ⟨rfl, hc⟩]
    have : List.map Int.toNat [(cn : Int)] = [cn] := by simp
    rw [this, sel_filter (q := atQ cn v) fun r hr => by rw [matQ, hag1 r hr]; simp [mV, ageOk, atQ], srt_filter hbr, sel_all]
  have e2 : matchV 2 R1 [2] [v] false = .tup [.sl [], .int .i64 1] := rfl
  have e3 : matchV 2 R1 [0] [] false = .tup [.sl [], .int .i64 1] := rfl
  have hq1 : List.map V.cs [v] = [[.bool v.b, .str v.s, .int .i64 v.n]] := rfl
  rw [e1] at hm1
  rw [e2] at hm2
  rw [e3] at hm3
  rw [hq1] at hm1 hm2
  have haa := Z_all (K := K) (gw := gw) (F := V2) hK hT hR2 (by omega)
  have hfacts : ∀ i (h : i < (srt (Sel (fun _ => true) R1)).length), ∃ u0 u1 w, (srt (Sel (fun _ => true) R1))[i] = [u0, u1] ∧ (cn = 0 → w = u0) ∧ (cn = 1 → w = u1) ∧ atQ cn v [u0, u1] = decide (cmpT [w] [v] = 0) ∧
      (∀ s2 : St, W1 K gw 16 [.sl [w.cs], .sl [v.cs]] s2 = some (.int .i64 (cmpT [w] [v]), s2, [])) ∧
      W1 K gw 19 [.ptr rid 0, .sl [[.int .i64 0], [.int .i64 1]], .sl [u0.cs, u1.cs], .bool false] s2 = some (.tup [.sl (encD [[u0, u1]]), .int .i64 0], s2, []) ∧
      W1 K gw 17 [.ptr rid 0, .sl [u0.cs, u1.cs]] s2 = some (.bool true, s2, []) ∧
      (∀ s2 : St, W1 K gw 20 [.sl [u0.cs, u1.cs], .sl [u0.cs, u1.cs]] s2 = some (.bool true, s2, [])) := fun i h => by
    have hmem := List.getElem_mem h
    obtain ⟨u0, u1, w, ha, h1, h2, h3, h4, h5, h6⟩ := row_facts hbr h2l hag1 cn hcn01 v hmem
    have hin : [u0, u1] ∈ R1.map (·.1) := by rw [← ha, ← sel_all]; exact (srt_mem (bareR_sel hbr _) _).1 hmem
    rw [ha] at h3 h4 h5 h6
    have hw : w.s.length < LIM := hstr _ hin w h4
    refine ⟨u0, u1, w, ha, h1, h2, h3, fun s2 => ?_, ?_, ?_, fun s2 => ?_⟩
    · refine W1_cmp (K := K) (gw := gw) (s := s2) [w] [v] ?_ ?_
      · simp only [okR, List.length_cons, List.length_nil, List.all_cons, List.all_nil, Bool.and_true, Bool.and_eq_true, decide_eq_true_eq]
        exact ⟨by simp only [LIM]; omega, hw⟩
      · simp only [okR, List.length_cons, List.length_nil, List.all_cons, List.all_nil, Bool.and_true, Bool.and_eq_true, decide_eq_true_eq]
        exact ⟨by simp only [LIM]; omega, hv⟩
    · have := Z_match (K := K) (gw := gw) (F := V2) hK hT hR2 (by omega) [0, 1] [u0, u1] false (by simp) (.inl rfl) (.inl rfl)
      rw [matchV, if_pos ⟨rfl, rfl⟩] at this
      have hi : List.map Int.toNat [0, 1] = [0, 1] := rfl
      rw [hi, h5, ← W1_Z (by decide)] at this
      exact this
    · have := Z_has (K := K) (gw := gw) (F := V2) hK hT hR2 [u0, u1] (by simp) (by omega)
      rw [h6, ← W1_Z (by decide)] at this
      exact this
    · exact W1_same [u0, u1] (by simp only [List.length_cons, List.length_nil, LIM]; omega)
  have hAl : (srt (Sel (fun _ => true) R1)).length ≤ 40 := by rw [srt_all_len hbr]; omega
  generalize hA : srt (Sel (fun _ => true) R1) = A at *
  rw [← W1_Z (by decide)] at htu2 hm1 hm2 hm3 haa
  have hel : (encD A).length = A.length := by simp [encD]
  have hqv : v.cs = [.bool v.b, .str v.s, .int .i64 v.n] := rfl
  rw [hqv] at hs0
  have hi0 : ints [((0 : Nat) : Int)] = [[.int .i64 0]] := rfl
  have hi1 : ints [((1 : Nat) : Int)] = [[.int .i64 1]] := rfl
  have hi2 : ints [2] = [[.int .i64 2]] := rfl
  have hi3 : ints [0] = [[.int .i64 0]] := rfl
  rw [hi2] at hm2
  rw [hi3] at hm3
  obtain ⟨c9, h9⟩ : ∃ c9 : Int, c9 = (cn : Int) := ⟨_, rfl⟩
  generalize hqq : atQ cn v = q at *
  rcases hcn with ⟨rfl, rfl⟩ | ⟨rfl, rfl⟩
  rw [hi0] at hm1
  rotate_left
  rw [hi1] at hm1
  rotate_left
  all_goals
    simp at h9
    repeat' (first
      | refine WP.t ?_ | refine WP.k ?_ | refine WP.e ?_ | refine Qn ?_ | refine Qr ?_ | refine Qe ?_ | refine Bn ?_ | refine Br ?_ | refine Be ?_ | refine Bx (by decide) ?_
      | (refine RS.nl ?_; refine hk _ _ ?_; clear hk k)
      | ((first | refine RS.st fun A B hA hB => ?_ | refine RQ.st fun A B hA hB => ?_); simp [hsh, V.cs, hs0, hfi, hv1, htu2, hb2, hm1, haa, hga, onW_t, onW_f, onV_s]; first | ((first | refine hA _ _ _ ?_ ?_ | refine hA _ _ _ ?_ (by first | exact .inl rfl | exact .inr (by decide)) ?_); (focus (simp [hsh, V.cs, hs0, hfi, hv1, htu2, hb2, hm1, haa, hga] <;> omega)); clear hA hB A B) | (refine hB ?_; clear hA hB A B) | (refine onV_if ?_ ?_; (focus (first | omega | (refine ⟨?_, ?_⟩ <;> omega))); simp only [onV_s]; (first | refine hA _ _ _ ?_ ?_ | refine hA _ _ _ ?_ (by first | exact .inl rfl | exact .inr (by decide)) ?_); (focus (simp [hsh, V.cs, hs0, hfi, hv1, htu2, hb2, hm1, haa, hga] <;> omega)); clear hA hB A B))
      | (refine RQ.nl ?_; refine hk _ _ ?_; clear hk k)
      | refine WP.sr fun k hk => ?_ | refine WP.r fun k hk => ?_
      | refine WP.sd _ rfl fun k hk => ?_ | refine WP.d _ rfl fun k hk => ?_
      | (refine WP.cc fun A B hA hB => ?_; simp [hsh, V.cs, hs0, hfi, hv1, htu2, hb2, hm1, haa, hga, onB_t, onB_f]; first | (refine hA ?_; clear hA hB A B) | (refine hB ?_; clear hA hB A B) | (refine onB_if (fun h => hA ?_) (fun h => hB ?_) <;> clear hA hB A B))
      | refine WP.q ?_ | refine WP.b ?_)
    refine WP_loop (fun n T s' => ∃ i : Nat, n + i = A.length ∧ s' = s2 ∧ T.get 4 = .ptr s.nx 0 ∧ T.get 7 = .bool true ∧ T.get 8 = .ptr rid 0 ∧ T.get 9 = .int .i64 c9 ∧ T.get 10 = .sl (encD (A.filter q)) ∧ T.get 11 = .int .i64 0 ∧
      T.get 12 = .int .i64 ((A.take i).filter q).length ∧ T.get 13 = .sl (encD A) ∧ T.get 14 = .int .i64 i) A.length ⟨0, by simp, rfl, by simp, by simp, by simp, by simp [h9], by simp, by simp, by simp, by simp, by simp⟩ ?_
    rintro n T s' ⟨i, hni, rfl, g4, g7, g8, g9, g10, g11, g12, g13, g14⟩
    by_cases hi : i < A.length
    · have hlt : ((i : Int) < (A.length : Int)) := by omega
      have hw64 : IntKind.i64.wrap ((i : Int) + 1) = (i : Int) + 1 := wrap64 (by omega) (by omega)
      obtain ⟨u0, u1, w, ha, hw0, hw1, hqa, hcmp, hown, hhas, hsame⟩ := hfacts i hi
      generalize hcv : cmpT [w] [v] = cz at hqa hcmp
      first | (have hww := hw0 rfl; rw [hww] at hcmp) | (have hww := hw1 rfl; rw [hww] at hcmp)
      have htk : A.take (i + 1) = A.take i ++ [[u0, u1]] := by rw [← ha]; exact List.take_succ_eq_append_getElem hi
      have ha3 : ∀ h : i < (encD A).length, (encD A)[i]'h = [.sl [u0.cs, u1.cs]] := fun h => by simp [encD, ha, Rw]
      have hown2 : encD [[u0, u1]] = [[.sl [u0.cs, u1.cs]]] := rfl
      rw [hown2] at hown
      have hfl2 : (A.filter q).length ≤ A.length := List.length_filter_le _ _
      have hfl3 : ((A.take i).filter q).length ≤ (A.take i).length := List.length_filter_le _ _
      have hfl4 : (A.take i).length ≤ A.length := by simp; omega
      simp only [V.cs] at ha3 hcmp hown hhas hsame
      by_cases hcz : cz = 0
      · have hqt : q [u0, u1] = true := by rw [hqa]; simp [hcz]
        have hft : (A.take (i + 1)).filter q = (A.take i).filter q ++ [[u0, u1]] := by rw [htk, List.filter_append]; simp [hqt]
        have hcb : (cz == 0) = true := by simp [hcz]
        have hfg := filter_get (q := q) hi (by rw [ha]; exact hqt)
        rw [ha] at hfg
        have hm : ((A.take i).filter q).length < (A.filter q).length := (List.getElem?_eq_some_iff.1 hfg).1
        have hft2 : ((A.take (i + 1)).filter q).length = ((A.take i).filter q).length + 1 := by rw [hft]; simp
        have hel2 : (encD (A.filter q)).length = (A.filter q).length := by simp [encD]
        generalize ((A.take i).filter q).length = mo at *
        have hg1 : (encD (A.filter q))[mo]? = some [.sl [u0.cs, u1.cs]] := by
          rw [encD, List.getElem?_map, hfg]; rfl
        have hge : ∀ h : mo < (encD (A.filter q)).length, (encD (A.filter q))[mo]'h = [.sl [u0.cs, u1.cs]] := fun h => by
          rw [List.getElem?_eq_getElem h] at hg1
          exact Option.some.inj hg1
        simp only [V.cs] at hge
        have hmi : ((mo : Int) < ((A.filter q).length : Int)) := by omega
        have hmn : ¬ ((A.filter q).length : Int) ≤ (mo : Int) := by omega
        have hmn2 : ¬ (A.filter q).length ≤ mo := by omega
        have hwm : IntKind.i64.wrap ((mo : Int) + 1) = (mo : Int) + 1 := wrap64 (by omega) (by omega)
        repeat' (first
          | refine WP.t ?_ | refine WP.k ?_ | refine WP.e ?_ | refine Qn ?_ | refine Qr ?_ | refine Qe ?_ | refine Bn ?_ | refine Br ?_ | refine Be ?_ | refine Bx (by decide) ?_
          | (refine RS.nl ?_; refine hk _ _ ?_; clear hk k)
          | ((first | refine RS.st fun A B hA hB => ?_ | refine RQ.st fun A B hA hB => ?_); simp [g4, g7, g8, g9, g10, g11, g12, g13, g14, hel, hel2, hlt, hi, hw64, ha3, hown, hhas, hsame, hcmp, hcb, hga, h9, hge, hmi, hm, hmn, hmn2, hwm, onW_t, onW_f, onV_s]; first | ((first | refine hA _ _ _ ?_ ?_ | refine hA _ _ _ ?_ (by first | exact .inl rfl | exact .inr (by decide)) ?_); (focus (simp [g4, g7, g8, g9, g10, g11, g12, g13, g14, hel, hel2, hlt, hi, hw64, ha3, hown, hhas, hsame, hcmp, hcb, hga, h9, hge, hmi, hm, hmn, hmn2, hwm] <;> omega)); clear hA hB A B) | (refine hB ?_; clear hA hB A B) | (refine onV_if ?_ ?_; (focus (first | omega | (refine ⟨?_, ?_⟩ <;> omega))); simp only [onV_s]; (first | refine hA _ _ _ ?_ ?_ | refine hA _ _ _ ?_ (by first | exact .inl rfl | exact .inr (by decide)) ?_); (focus (simp [g4, g7, g8, g9, g10, g11, g12, g13, g14, hel, hel2, hlt, hi, hw64, ha3, hown, hhas, hsame, hcmp, hcb, hga, h9, hge, hmi, hm, hmn, hmn2, hwm] <;> omega)); clear hA hB A B))
          | (refine RQ.nl ?_; refine hk _ _ ?_; clear hk k)
          | refine WP.sr fun k hk => ?_ | refine WP.r fun k hk => ?_
          | refine WP.sd _ rfl fun k hk => ?_ | refine WP.d _ rfl fun k hk => ?_
          | (refine WP.cc fun A B hA hB => ?_; simp [g4, g7, g8, g9, g10, g11, g12, g13, g14, hel, hel2, hlt, hi, hw64, ha3, hown, hhas, hsame, hcmp, hcb, hga, h9, hge, hmi, hm, hmn, hmn2, hwm, onB_t, onB_f]; first | (refine hA ?_; clear hA hB A B) | (refine hB ?_; clear hA hB A B) | (refine onB_if (fun h => hA ?_) (fun h => hB ?_) <;> clear hA hB A B))
          | refine WP.q ?_ | refine WP.b ?_)
        exact ⟨n - 1, by omega, i + 1, by omega, rfl, by simp [g4], by simp [g7], by simp [g8], by simp [g9], by simp [g10], by simp [g11], by simp [g12, hft2], by simp [g13], by simp⟩
      · have hqf : q [u0, u1] = false := by rw [hqa]; simp [hcz]
        have hft : (A.take (i + 1)).filter q = (A.take i).filter q := by rw [htk, List.filter_append]; simp [hqf]
        have hcb : (cz == 0) = false := beq_eq_false_iff_ne.2 hcz
        repeat' (first
          | refine WP.t ?_ | refine WP.k ?_ | refine WP.e ?_ | refine Qn ?_ | refine Qr ?_ | refine Qe ?_ | refine Bn ?_ | refine Br ?_ | refine Be ?_ | refine Bx (by decide) ?_
          | (refine RS.nl ?_; refine hk _ _ ?_; clear hk k)
          | ((first | refine RS.st fun A B hA hB => ?_ | refine RQ.st fun A B hA hB => ?_); simp [g4, g7, g8, g9, g10, g11, g12, g13, g14, hel, hlt, hi, hw64, ha3, hown, hhas, hsame, hcmp, hcb, hga, h9, onW_t, onW_f, onV_s]; first | ((first | refine hA _ _ _ ?_ ?_ | refine hA _ _ _ ?_ (by first | exact .inl rfl | exact .inr (by decide)) ?_); (focus (simp [g4, g7, g8, g9, g10, g11, g12, g13, g14, hel, hlt, hi, hw64, ha3, hown, hhas, hsame, hcmp, hcb, hga, h9] <;> omega)); clear hA hB A B) | (refine hB ?_; clear hA hB A B) | (refine onV_if ?_ ?_; (focus (first | omega | (refine ⟨?_, ?_⟩ <;> omega))); simp only [onV_s]; (first | refine hA _ _ _ ?_ ?_ | refine hA _ _ _ ?_ (by first | exact .inl rfl | exact .inr (by decide)) ?_); (focus (simp [g4, g7, g8, g9, g10, g11, g12, g13, g14, hel, hlt, hi, hw64, ha3, hown, hhas, hsame, hcmp, hcb, hga, h9] <;> omega)); clear hA hB A B))
          | (refine RQ.nl ?_; refine hk _ _ ?_; clear hk k)
          | refine WP.sr fun k hk => ?_ | refine WP.r fun k hk => ?_
          | refine WP.sd _ rfl fun k hk => ?_ | refine WP.d _ rfl fun k hk => ?_
          | (refine WP.cc fun A B hA hB => ?_; simp [g4, g7, g8, g9, g10, g11, g12, g13, g14, hel, hlt, hi, hw64, ha3, hown, hhas, hsame, hcmp, hcb, hga, h9, onB_t, onB_f]; first | (refine hA ?_; clear hA hB A B) | (refine hB ?_; clear hA hB A B) | (refine onB_if (fun h => hA ?_) (fun h => hB ?_) <;> clear hA hB A B))
          | refine WP.q ?_ | refine WP.b ?_)
        exact ⟨n - 1, by omega, i + 1, by omega, rfl, by simp [g4], by simp [g7], by simp [g8], by simp [g9], by simp [g10], by simp [g11], by simp [g12, hft], by simp [g13], by simp⟩
    · have hlt : ¬ ((i : Int) < (A.length : Int)) := by omega
      have htk : A.take i = A := List.take_of_length_le (by omega)
      rw [htk] at g12
      have hel2 : (encD (A.filter q)).length = (A.filter q).length := by simp [encD]
      repeat' (first
        | refine WP.t ?_ | refine WP.k ?_ | refine WP.e ?_ | refine Qn ?_ | refine Qr ?_ | refine Qe ?_ | refine Bn ?_ | refine Br ?_ | refine Be ?_ | refine Bx (by decide) ?_
        | (refine RS.nl ?_; refine hk _ _ ?_; clear hk k)
        | ((first | refine RS.st fun A B hA hB => ?_ | refine RQ.st fun A B hA hB => ?_); simp [g4, g7, g8, g9, g10, g11, g12, g13, g14, hel, hel2, hlt, hi, hm2, hm3, hga, onW_t, onW_f, onV_s]; first | ((first | refine hA _ _ _ ?_ ?_ | refine hA _ _ _ ?_ (by first | exact .inl rfl | exact .inr (by decide)) ?_); (focus (simp [g4, g7, g8, g9, g10, g11, g12, g13, g14, hel, hel2, hlt, hi, hm2, hm3, hga] <;> omega)); clear hA hB A B) | (refine hB ?_; clear hA hB A B) | (refine onV_if ?_ ?_; (focus (first | omega | (refine ⟨?_, ?_⟩ <;> omega))); simp only [onV_s]; (first | refine hA _ _ _ ?_ ?_ | refine hA _ _ _ ?_ (by first | exact .inl rfl | exact .inr (by decide)) ?_); (focus (simp [g4, g7, g8, g9, g10, g11, g12, g13, g14, hel, hel2, hlt, hi, hm2, hm3, hga] <;> omega)); clear hA hB A B))
        | (refine RQ.nl ?_; refine hk _ _ ?_; clear hk k)
        | refine WP.sr fun k hk => ?_ | refine WP.r fun k hk => ?_
        | refine WP.sd _ rfl fun k hk => ?_ | refine WP.d _ rfl fun k hk => ?_
        | (refine WP.cc fun A B hA hB => ?_; simp [g4, g7, g8, g9, g10, g11, g12, g13, g14, hel, hel2, hlt, hi, hm2, hm3, hga, onB_t, onB_f]; first | (refine hA ?_; clear hA hB A B) | (refine hB ?_; clear hA hB A B) | (refine onB_if (fun h => hA ?_) (fun h => hB ?_) <;> clear hA hB A B))
        | refine WP.q ?_ | refine WP.b ?_)
      simp
end
end Go.Am
