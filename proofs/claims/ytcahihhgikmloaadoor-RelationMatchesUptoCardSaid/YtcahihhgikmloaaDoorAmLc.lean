/- Part of the proof: abstract values over the given model of Go (L3). Conditions: none of its own; see the statement in the seat's Rows text. -/
import Derived.Test.YtcahihhgikmloaaDoorAmLb
set_option linter.unusedSimpArgs false
set_option linter.unusedVariables false
set_option linter.unusedSectionVars false
namespace Go.Am
open Go.Proofs
theorem has_any (L : List (V × V)) (a b : V) : (L.any fun p => decide (cmpT (pr p) [a, b] = 0)) = hasR (fillR L) [a, b] := by
  rw [Bool.eq_iff_iff]
  simp only [List.any_eq_true, hasR, decide_eq_true_eq, fillR_mem]
  constructor
  · rintro ⟨p, hp, h⟩
    exact ⟨p, hp, (cmpT_bare.1 h).symm⟩
  · rintro ⟨p, hp, h⟩
    exact ⟨p, hp, cmpT_bare.2 h.symm⟩
theorem has_add {ar : Nat} {R : List (List V × Nat)} {t : List V} (ht : t.length = ar) : hasR (addR ar R t) t = true := by
  simp only [hasR, decide_eq_true_eq]
  exact (addR_mem t _ ht).2 (.inr rfl)
theorem addOk_again {ar : Nat} {R : List (List V × Nat)} {t : List V} (ht : t.length = ar) : addOk ar (addR ar R t) t = false := by
  simp [addOk, has_add ht]
theorem okR_2 {x y : V} (hx : x.s.length < LIM) (hy : y.s.length < LIM) : okR [x, y] = true := by
  simp [okR]
  exact ⟨by simp only [LIM]; omega, hx, hy⟩
section
variable {K : Nat} {gw : World} {s : St}
attribute [local simp] awanted xop zOf zrow aop ev T0 Slots.put Slots.set Slots.get awr WOk AV.may ofConst abinop aint isConst St.get_push St.get_put St.live AV.fit AV.cells AV.one fieldOf afieldAddr aload ofCells astore splice May eqres env_ti FinP FinZ FinW ares aresL ares1 Fns.addP Fns.add Fns.a0 Fns.a1 Fns.a2 Fns.a3 Fns.a4 abuiltin alenOk alen aindex elemOfT elemId abuildSlice afill chunks ard aappend isSS AV.isStr aminmax placesOf abuild afield aidx isStrD isStrDesc astrop aslice asliceOk abound arange anext aextract aunop aeq AV.ck avseq aveq aconv aconvert onB_t onB_f List.range_succ ti0 ti1 ti2 ti3 ti4 ti5 ti6 ti7 ti8 ti9 ti10 ti11 ti12 ti13 ti14 ti15 ti16 ti17 ti18 ti19 ti20 ti21 ti22 ti23 ti24 ti25 ti26 ti27 ti28 ti29 ti30 ti31 ti32 ti33 ti34 ti35 ti36 ti37 ti38 ti39 ti40 ti41 ti42 ti43 ti44 ti45 ti46 ti47 ti48 ti49 ti50 ti51 ti52 ti53 ti54 ti55 ti56 ti57 ti58 ti59 ti60 ti61 ti62 ti63 ti64 ti65 ti66 ti67 ti68 ti69 ti70 ti71 ti72 ti73 ti74 ti75 ti76 ti77 ti78 ti79 ti80 ti81 ti82 ti83 ti84 ti85 ti86 ti87 ti88 ti89 ti90 ti91 ti92 ti93 ti94 ti95 ti96 ti97 ti98 ti99 ti100 ti101 ti102 ti103 ti104 ti105 ti106 ti107 ti108 ti109 ti110 ti111 ti112 ti113 ti114 ti115 ti116 ti117 ti118 ti119 ti120 ti121 ti122 ti123 ti124 ti125 ti126 ti127 ti128 ti129 ti130 ti131 ti132 ti133 ti134 ti135 ti136 ti137 ti138 ti139 ti140 ti141 ti142 ti143 ti144 ti145 ti146 ti147
theorem W1_cmp (x y : List V) (hx : okR x = true) (hy : okR y = true) : W1 K gw 16 [.sl (x.map V.cs), .sl (y.map V.cs)] s = some (.int .i64 (cmpT x y), s, []) := by
  rw [W1_Z (by decide), Z_base (by decide)]
  simp only [V2, V1, V0, Fns.addP]
  simp [pCmpQ, hx, hy]
set_option maxRecDepth 20000 in
set_option maxHeartbeats 4000000 in
theorem ft_HasL (hK : 0 < K) (hT : Tens gw) (L : List (V × V)) (a b : V) (hL : L.length < 1073741824) (ha : a.s.length < LIM) (hb : b.s.length < LIM) (hok : ∀ p ∈ L, p.1.s.length < LIM ∧ p.2.s.length < LIM) : FT (env K gw) NoW 4 [.sl (pairs L), .agg a.cs, .agg b.cs] s (.bool true) s := by
  refine FT.pure (fn := Tryd.f4) (W1_ok hK hT) mixed Tryd.func4 (by kernel_rfl) (by rfl) rfl rfl (by simp) (by kernel_rfl) fun μ w => ?_
  have hsh := fun s2 : St => W1_shown (K := K) (gw := gw) (s := s2)
  have hpl : (pairs L).length = L.length := by simp [pairs]
  generalize hs0 : (s.push (.var 25 a.cs)).push (.var 25 b.cs) = s0
  have hn0 : s0.nx = s.nx + 2 := by rw [← hs0]; simp
  have hga0 : s0.get s.nx = some (.var 25 a.cs) := by rw [← hs0]; simp [St.get_push]
  have hgb0 : s0.get (s.nx + 1) = some (.var 25 b.cs) := by rw [← hs0]; simp [St.get_push]
  obtain ⟨s1, rid, l1, hfi, hE1, hR1, hl1⟩ := W1_filled (K := K) (gw := gw) (s := s0) hK hT L hL
  have hn1 := hE1.nx
  have hv1 := hR1.live
  have hca : List.take 3 a.cs = a.cs := rfl
  have hcb : List.take 3 b.cs = b.cs := rfl
  have hoa : a.cs.all AV.one = true := rfl
  have hob : b.cs.all AV.one = true := rfl
  have hla3 : a.cs.length = 3 := rfl
  have hlb3 : b.cs.length = 3 := rfl
  simp only [V.cs] at hs0 hga0 hgb0
  by_cases h40 : 40 < L.length
  · have h40i : (40 : Int) < (L.length : Int) := by omega
    repeat' (first
      | refine WP.t ?_ | refine WP.k ?_ | refine WP.e ?_ | refine Qn ?_ | refine Qr ?_ | refine Qe ?_ | refine Bn ?_ | refine Br ?_ | refine Be ?_ | refine Bx (by decide) ?_
      | (refine RS.nl ?_; refine hk _ _ ?_; clear hk k)
      | ((first | refine RS.st fun A B hA hB => ?_ | refine RQ.st fun A B hA hB => ?_); simp [hsh, hpl, h40, h40i, V.cs, hs0, hfi, hv1, onW_t, onW_f, onV_s]; first | ((first | refine hA _ _ _ ?_ ?_ | refine hA _ _ _ ?_ (by first | exact .inl rfl | exact .inr (by decide)) ?_); (focus (simp [hsh, hpl, h40, h40i, V.cs, hs0, hfi, hv1] <;> omega)); clear hA hB A B) | (refine hB ?_; clear hA hB A B) | (refine onV_if ?_ ?_; (focus (first | omega | (refine ⟨?_, ?_⟩ <;> omega))); simp only [onV_s]; (first | refine hA _ _ _ ?_ ?_ | refine hA _ _ _ ?_ (by first | exact .inl rfl | exact .inr (by decide)) ?_); (focus (simp [hsh, hpl, h40, h40i, V.cs, hs0, hfi, hv1] <;> omega)); clear hA hB A B))
      | (refine RQ.nl ?_; refine hk _ _ ?_; clear hk k)
      | refine WP.sr fun k hk => ?_ | refine WP.r fun k hk => ?_
      | refine WP.sd _ rfl fun k hk => ?_ | refine WP.d _ rfl fun k hk => ?_
      | (refine WP.cc fun A B hA hB => ?_; simp [hsh, hpl, h40, h40i, V.cs, hs0, hfi, hv1, onB_t, onB_f]; first | (refine hA ?_; clear hA hB A B) | (refine hB ?_; clear hA hB A B) | (refine onB_if (fun h => hA ?_) (fun h => hB ?_) <;> clear hA hB A B))
      | refine WP.q ?_ | refine WP.b ?_)
    simp
  have h40i : ¬ (40 : Int) < (L.length : Int) := by omega
  have ht40 : L.take 40 = L := List.take_of_length_le (by omega)
  rw [ht40] at hR1
  have hga : s1.get s.nx = some (.var 25 [.bool a.b, .str a.s, .int .i64 a.n]) := by rw [hE1.same _ (by omega) (by simp)]; exact hga0
  have hgb : s1.get (s.nx + 1) = some (.var 25 [.bool b.b, .str b.s, .int .i64 b.n]) := by rw [hE1.same _ (by omega) (by simp)]; exact hgb0
  repeat' (first
    | refine WP.t ?_ | refine WP.k ?_ | refine WP.e ?_ | refine Qn ?_ | refine Qr ?_ | refine Qe ?_ | refine Bn ?_ | refine Br ?_ | refine Be ?_ | refine Bx (by decide) ?_
    | (refine RS.nl ?_; refine hk _ _ ?_; clear hk k)
    | ((first | refine RS.st fun A B hA hB => ?_ | refine RQ.st fun A B hA hB => ?_); simp [hsh, hpl, h40, h40i, V.cs, hs0, hfi, hv1, onW_t, onW_f, onV_s]; first | ((first | refine hA _ _ _ ?_ ?_ | refine hA _ _ _ ?_ (by first | exact .inl rfl | exact .inr (by decide)) ?_); (focus (simp [hsh, hpl, h40, h40i, V.cs, hs0, hfi, hv1] <;> omega)); clear hA hB A B) | (refine hB ?_; clear hA hB A B) | (refine onV_if ?_ ?_; (focus (first | omega | (refine ⟨?_, ?_⟩ <;> omega))); simp only [onV_s]; (first | refine hA _ _ _ ?_ ?_ | refine hA _ _ _ ?_ (by first | exact .inl rfl | exact .inr (by decide)) ?_); (focus (simp [hsh, hpl, h40, h40i, V.cs, hs0, hfi, hv1] <;> omega)); clear hA hB A B))
    | (refine RQ.nl ?_; refine hk _ _ ?_; clear hk k)
    | refine WP.sr fun k hk => ?_ | refine WP.r fun k hk => ?_
    | refine WP.sd _ rfl fun k hk => ?_ | refine WP.d _ rfl fun k hk => ?_
    | (refine WP.cc fun A B hA hB => ?_; simp [hsh, hpl, h40, h40i, V.cs, hs0, hfi, hv1, onB_t, onB_f]; first | (refine hA ?_; clear hA hB A B) | (refine hB ?_; clear hA hB A B) | (refine onB_if (fun h => hA ?_) (fun h => hB ?_) <;> clear hA hB A B))
    | refine WP.q ?_ | refine WP.b ?_)
  refine WP_loop (fun n T s' => ∃ i : Nat, n + i = L.length ∧ s' = s1 ∧ T.get 0 = .sl (pairs L) ∧ T.get 4 = .ptr s.nx 0 ∧ T.get 5 = .ptr (s.nx + 1) 0 ∧ T.get 7 = .bool true ∧ T.get 8 = .ptr rid 0 ∧ T.get 10 = .int .i64 i ∧
    T.get 9 = .bool ((L.take i).any fun p => decide (cmpT (pr p) [a, b] = 0))) L.length ⟨0, by simp, rfl, by simp, by simp, by simp, by simp, by simp, by simp, by simp⟩ ?_
  rintro n T s' ⟨i, hni, rfl, g0, g4, g5, g7, g8, g10, g9⟩
  by_cases hi : i < L.length
  · have hlt : ((i : Int) < (L.length : Int)) := by omega
    have hw : IntKind.i64.wrap ((i : Int) + 1) = (i : Int) + 1 := wrap64 (by omega) (by omega)
    have ha3 : ∀ h : i < (pairs L).length, (pairs L)[i]'h = pc L[i] := fun h => by simp [pairs]
    have htk : L.take (i + 1) = L.take i ++ [L[i]] := List.take_succ_eq_append_getElem hi
    have hcm := fun s2 : St => W1_cmp (K := K) (gw := gw) (s := s2) (pr L[i]) [a, b] (okR_2 (hok L[i] (List.getElem_mem hi)).1 (hok L[i] (List.getElem_mem hi)).2) (okR_2 ha hb)
    generalize hv : L[i] = v at *
    have hcs : List.map V.cs (pr v) = [v.1.cs, v.2.cs] := rfl
    have hcs2 : List.map V.cs [a, b] = [a.cs, b.cs] := rfl
    rw [hcs, hcs2] at hcm
    simp only [V.cs] at hcm
    cases hb : (L.take i).any fun p => decide (cmpT (pr p) [a, b] = 0) with
    | true =>
      rw [hb] at g9
      repeat' (first
        | refine WP.t ?_ | refine WP.k ?_ | refine WP.e ?_ | refine Qn ?_ | refine Qr ?_ | refine Qe ?_ | refine Bn ?_ | refine Br ?_ | refine Be ?_ | refine Bx (by decide) ?_
        | (refine RS.nl ?_; refine hk _ _ ?_; clear hk k)
        | ((first | refine RS.st fun A B hA hB => ?_ | refine RQ.st fun A B hA hB => ?_); simp [g0, g4, g5, g7, g8, g9, g10, hpl, hlt, hi, hw, onW_t, onW_f, onV_s]; first | ((first | refine hA _ _ _ ?_ ?_ | refine hA _ _ _ ?_ (by first | exact .inl rfl | exact .inr (by decide)) ?_); (focus (simp [g0, g4, g5, g7, g8, g9, g10, hpl, hlt, hi, hw] <;> omega)); clear hA hB A B) | (refine hB ?_; clear hA hB A B) | (refine onV_if ?_ ?_; (focus (first | omega | (refine ⟨?_, ?_⟩ <;> omega))); simp only [onV_s]; (first | refine hA _ _ _ ?_ ?_ | refine hA _ _ _ ?_ (by first | exact .inl rfl | exact .inr (by decide)) ?_); (focus (simp [g0, g4, g5, g7, g8, g9, g10, hpl, hlt, hi, hw] <;> omega)); clear hA hB A B))
        | (refine RQ.nl ?_; refine hk _ _ ?_; clear hk k)
        | refine WP.sr fun k hk => ?_ | refine WP.r fun k hk => ?_
        | refine WP.sd _ rfl fun k hk => ?_ | refine WP.d _ rfl fun k hk => ?_
        | (refine WP.cc fun A B hA hB => ?_; simp [g0, g4, g5, g7, g8, g9, g10, hpl, hlt, hi, hw, onB_t, onB_f]; first | (refine hA ?_; clear hA hB A B) | (refine hB ?_; clear hA hB A B) | (refine onB_if (fun h => hA ?_) (fun h => hB ?_) <;> clear hA hB A B))
        | refine WP.q ?_ | refine WP.b ?_)
      refine ⟨n - 1, by omega, i + 1, by omega, rfl, by simp [g0], by simp [g4], by simp [g5], by simp [g7], by simp [g8], by simp, ?_⟩
      rw [htk, List.any_append, hb]
      simp
    | false =>
      rw [hb] at g9
      have hce : (cmpT (pr v) [a, b] == 0) = decide (cmpT (pr v) [a, b] = 0) := rfl
      repeat' (first
        | refine WP.t ?_ | refine WP.k ?_ | refine WP.e ?_ | refine Qn ?_ | refine Qr ?_ | refine Qe ?_ | refine Bn ?_ | refine Br ?_ | refine Be ?_ | refine Bx (by decide) ?_
        | (refine RS.nl ?_; refine hk _ _ ?_; clear hk k)
        | ((first | refine RS.st fun A B hA hB => ?_ | refine RQ.st fun A B hA hB => ?_); simp [g0, g4, g5, g7, g8, g9, g10, hpl, hlt, hi, hw, ha3, pc, V.cs, sz25, hga, hgb, hcm, hce, onW_t, onW_f, onV_s]; first | ((first | refine hA _ _ _ ?_ ?_ | refine hA _ _ _ ?_ (by first | exact .inl rfl | exact .inr (by decide)) ?_); (focus (simp [g0, g4, g5, g7, g8, g9, g10, hpl, hlt, hi, hw, ha3, pc, V.cs, sz25, hga, hgb, hcm, hce] <;> omega)); clear hA hB A B) | (refine hB ?_; clear hA hB A B) | (refine onV_if ?_ ?_; (focus (first | omega | (refine ⟨?_, ?_⟩ <;> omega))); simp only [onV_s]; (first | refine hA _ _ _ ?_ ?_ | refine hA _ _ _ ?_ (by first | exact .inl rfl | exact .inr (by decide)) ?_); (focus (simp [g0, g4, g5, g7, g8, g9, g10, hpl, hlt, hi, hw, ha3, pc, V.cs, sz25, hga, hgb, hcm, hce] <;> omega)); clear hA hB A B))
        | (refine RQ.nl ?_; refine hk _ _ ?_; clear hk k)
        | refine WP.sr fun k hk => ?_ | refine WP.r fun k hk => ?_
        | refine WP.sd _ rfl fun k hk => ?_ | refine WP.d _ rfl fun k hk => ?_
        | (refine WP.cc fun A B hA hB => ?_; simp [g0, g4, g5, g7, g8, g9, g10, hpl, hlt, hi, hw, ha3, pc, V.cs, sz25, hga, hgb, hcm, hce, onB_t, onB_f]; first | (refine hA ?_; clear hA hB A B) | (refine hB ?_; clear hA hB A B) | (refine onB_if (fun h => hA ?_) (fun h => hB ?_) <;> clear hA hB A B))
        | refine WP.q ?_ | refine WP.b ?_)
      refine ⟨n - 1, by omega, i + 1, by omega, rfl, by simp [g0], by simp [g4], by simp [g5], by simp [g7], by simp [g8], by simp, ?_⟩
      rw [htk, List.any_append, hb]
      simp
  · have hlt : ¬ ((i : Int) < (L.length : Int)) := by omega
    have he : L.take i = L := List.take_of_length_le (by omega)
    rw [he, has_any] at g9
    have hq : List.map V.cs [a, b] = [[.bool a.b, .str a.s, .int .i64 a.n], [.bool b.b, .str b.s, .int .i64 b.n]] := rfl
    have hq1 : List.map V.cs [a] = [[.bool a.b, .str a.s, .int .i64 a.n]] := rfl
    have hfl := fillR_len L
    have hh1 := Z_has (K := K) (gw := gw) (F := V2) hK hT hR1 [a, b] (by simp) (by omega)
    obtain ⟨s2, ids2, had2, hids2, hE2, l2, hR2, hl2⟩ := Z_add (K := K) (gw := gw) (F := V2) hK hT hR1 [a, b] (by omega)
    have hb2 : ∀ j ∈ ids2, s.nx ≤ j := fun j hj => by have := (hl1 j (hids2 j hj)).1; omega
    have hal := addR_len 2 (fillR L) [a, b]
    obtain ⟨s3, ids3, had3, hids3, hE3, l3, hR3, hl3⟩ := Z_add (K := K) (gw := gw) (F := V2) hK hT hR2 [a, b] (by omega)
    have hn2 := hE2.nx
    have hn3 := hE3.nx
    have hb3 : ∀ j ∈ ids3, s.nx ≤ j := fun j hj => (hl2 j (hids3 j hj)).elim (fun h => by have := (hl1 j h).1; omega) fun h => by omega
    have hag : addR 2 (addR 2 (fillR L) [a, b]) [a, b] = addR 2 (fillR L) [a, b] := by
      rw [addR, addOk_again (ar := 2) (R := fillR L) (t := [a, b]) rfl]; rfl
    rw [hag] at hR3
    have hh3 := Z_has (K := K) (gw := gw) (F := V2) hK hT hR3 [a, b] (by simp) (by omega)
    have hh4 := Z_has (K := K) (gw := gw) (F := V2) hK hT hR3 [a] (by simp) (by omega)
    have hla := Z_len (K := K) (gw := gw) (F := V2) hK hT hR3
    have haa := Z_all (K := K) (gw := gw) (F := V2) hK hT hR3 (by omega)
    rw [← W1_Z (by decide)] at hh1 had2 had3 hh3 hh4 hla haa
    have hel : (encD (srt (Sel (fun _ => true) (addR 2 (fillR L) [a, b])))).length = (addR 2 (fillR L) [a, b]).length := by rw [encD, List.length_map, srt_all_len hR3.bareR]
    have hnotin : ∀ i ∈ ids2, ¬ i = s.nx ∧ ¬ i = s.nx + 1 := fun j hj => by have := (hl1 j (hids2 j hj)).1; omega
    have k2a : s2.get s.nx = some (.var 25 [.bool a.b, .str a.s, .int .i64 a.n]) := by rw [hE2.same _ (by omega) fun hm => by have := (hl1 _ hm).1; omega]; exact hga
    have k2b : s2.get (s.nx + 1) = some (.var 25 [.bool b.b, .str b.s, .int .i64 b.n]) := by rw [hE2.same _ (by omega) fun hm => by have := (hl1 _ hm).1; omega]; exact hgb
    have hl2s : ∀ j ∈ l2, s.nx + 2 ≤ j := fun j hj => (hl2 j hj).elim (fun h => by have := (hl1 j h).1; omega) fun h => by omega
    have k3a : s3.get s.nx = some (.var 25 [.bool a.b, .str a.s, .int .i64 a.n]) := by rw [hE3.same _ (by omega) fun hm => by have := hl2s _ hm; omega]; exact k2a
    have k3b : s3.get (s.nx + 1) = some (.var 25 [.bool b.b, .str b.s, .int .i64 b.n]) := by rw [hE3.same _ (by omega) fun hm => by have := hl2s _ hm; omega]; exact k2b
    have a3 : addV 2 (addR 2 (fillR L) [a, b]) [a, b] = .tup [.bool false, .int .i64 0] := by rw [addV, addOk_again (ar := 2) (R := fillR L) (t := [a, b]) rfl]; rfl
    have a2 : addV 2 (fillR L) [a, b] = .tup [.bool (!hasR (fillR L) [a, b]), .int .i64 0] := by simp [addV, addOk]
    rw [hq] at hh1 had2 had3 hh3
    rw [a2] at had2
    rw [a3] at had3
    rw [hq1] at hh4
    rw [has_add (ar := 2) (R := fillR L) (t := [a, b]) rfl] at hh3
    simp only [List.length_cons, List.length_nil, Nat.zero_add, Nat.reduceAdd, decide_true, Bool.true_and] at hh1 hh3 hh4
    generalize hasR (fillR L) [a, b] = th at *
    cases th
    all_goals
      repeat' (first
        | refine WP.t ?_ | refine WP.k ?_ | refine WP.e ?_ | refine Qn ?_ | refine Qr ?_ | refine Qe ?_ | refine Bn ?_ | refine Br ?_ | refine Be ?_ | refine Bx (by decide) ?_
        | (refine RS.nl ?_; refine hk _ _ ?_; clear hk k)
        | ((first | refine RS.st fun A B hA hB => ?_ | refine RQ.st fun A B hA hB => ?_); simp [g0, g4, g5, g7, g8, g9, g10, hpl, hlt, hi, hga, hgb, k2a, k2b, k3a, k3b, hh1, had2, had3, hh3, hh4, hla, haa, hel, hb2, hb3, onW_t, onW_f, onV_s]; first | ((first | refine hA _ _ _ ?_ ?_ | refine hA _ _ _ ?_ (by first | exact .inl rfl | exact .inr (by decide)) ?_); (focus (simp [g0, g4, g5, g7, g8, g9, g10, hpl, hlt, hi, hga, hgb, k2a, k2b, k3a, k3b, hh1, had2, had3, hh3, hh4, hla, haa, hel, hb2, hb3] <;> omega)); clear hA hB A B) | (refine hB ?_; clear hA hB A B) | (refine onV_if ?_ ?_; (focus (first | omega | (refine ⟨?_, ?_⟩ <;> omega))); simp only [onV_s]; (first | refine hA _ _ _ ?_ ?_ | refine hA _ _ _ ?_ (by first | exact .inl rfl | exact .inr (by decide)) ?_); (focus (simp [g0, g4, g5, g7, g8, g9, g10, hpl, hlt, hi, hga, hgb, k2a, k2b, k3a, k3b, hh1, had2, had3, hh3, hh4, hla, haa, hel, hb2, hb3] <;> omega)); clear hA hB A B))
        | (refine RQ.nl ?_; refine hk _ _ ?_; clear hk k)
        | refine WP.sr fun k hk => ?_ | refine WP.r fun k hk => ?_
        | refine WP.sd _ rfl fun k hk => ?_ | refine WP.d _ rfl fun k hk => ?_
        | (refine WP.cc fun A B hA hB => ?_; simp [g0, g4, g5, g7, g8, g9, g10, hpl, hlt, hi, hga, hgb, k2a, k2b, k3a, k3b, hh1, had2, had3, hh3, hh4, hla, haa, hel, hb2, hb3, onB_t, onB_f]; first | (refine hA ?_; clear hA hB A B) | (refine hB ?_; clear hA hB A B) | (refine onB_if (fun h => hA ?_) (fun h => hB ?_) <;> clear hA hB A B))
        | refine WP.q ?_ | refine WP.b ?_)
      simp
end
end Go.Am
