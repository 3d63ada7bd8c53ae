/- Part of the proof: abstract values over the given model of Go (L4). Conditions: none of its own; see the statement in the seat's Rows text. -/
import Derived.Test.YtcahihhgikmloaaDoorAmLc
set_option linter.unusedSimpArgs false
set_option linter.unusedVariables false
set_option linter.unusedSectionVars false
namespace Go.Am
open Go.Proofs
def foldA (R : List (List V × Nat)) (M : List (V × V)) : List (List V × Nat) := M.foldl (fun R p => addR 2 R (pr p)) R
theorem addR_app (R : List (List V × Nat)) (t : List V) : ∃ X, addR 2 R t = R ++ X ∧ ∀ r ∈ X, r.2 = 0 := by
  unfold addR
  cases addOk 2 R t with
  | true => exact ⟨_, rfl, by simp⟩
  | false => exact ⟨[], by simp, by simp⟩
theorem foldA_app : ∀ (M : List (V × V)) (R : List (List V × Nat)), ∃ X, foldA R M = R ++ X ∧ ∀ r ∈ X, r.2 = 0
  | [], R => ⟨[], by simp [foldA], by simp⟩
  | p :: M, R => by
    obtain ⟨X, hX, h0⟩ := addR_app R (pr p)
    obtain ⟨Y, hY, h1⟩ := foldA_app M (addR 2 R (pr p))
    refine ⟨X ++ Y, ?_, fun r hr => (List.mem_append.1 hr).elim (h0 r) (h1 r)⟩
    show foldA (addR 2 R (pr p)) M = _
    rw [hY, hX, List.append_assoc]
theorem foldA_take {M : List (V × V)} {R : List (List V × Nat)} {i : Nat} (h : i < M.length) : foldA R (M.take (i + 1)) = addR 2 (foldA R (M.take i)) (pr M[i]) := by
  unfold foldA
  rw [List.take_succ_eq_append_getElem h, List.foldl_append]
  rfl
theorem foldA_len (R : List (List V × Nat)) (M : List (V × V)) : (foldA R M).length ≤ R.length + M.length := fillR_len' M R
theorem sel_none {p : List V × Nat → Bool} {R : List (List V × Nat)} (h : ∀ r ∈ R, p r = false) : Sel p R = [] := by
  unfold Sel
  rw [List.map_eq_nil_iff, List.filter_eq_nil_iff]
  exact fun r hr e => by rw [h r hr] at e; cases e
theorem sel_every {p : List V × Nat → Bool} {R : List (List V × Nat)} (h : ∀ r ∈ R, p r = true) : Sel p R = R.map (·.1) := by
  unfold Sel
  rw [List.filter_eq_self.2 h]
theorem sel_append (p : List V × Nat → Bool) (R X : List (List V × Nat)) : Sel p (R ++ X) = Sel p R ++ Sel p X := by simp [Sel]
theorem mat_nil (only : Bool) (r : List V × Nat) : matQ [] [] only r = ageOk only r.2 := by simp [matQ, mV]
theorem fill_age (L : List (V × V)) : ∀ r ∈ fillR L, r.2 = 0 := by
  obtain ⟨X, hX, h0⟩ := foldA_app L []
  have : fillR L = X := by simpa [foldA, fillR] using hX
  rw [this]; exact h0
theorem any_delta {R : List (List V × Nat)} (h : ∀ r ∈ R, r.2 = 1) : R.any isDelta = decide (0 < (R.length : Int)) := by
  cases R with
  | nil => rfl
  | cons r R =>
    have := h r (by simp)
    have h2 : (0 : Int) < ((r :: R).length : Int) := by simp only [List.length_cons]; omega
    simp [isDelta, this, h2]
theorem any_none {R : List (List V × Nat)} (h : ∀ r ∈ R, r.2 ≠ 1) : R.any isDelta = false := by
  rw [List.any_eq_false]
  intro r hr
  simp [isDelta, h r hr]
theorem enc_len {R : List (List V × Nat)} (h : BareR R) (p : List V × Nat → Bool) : (encD (srt (Sel p R))).length = (Sel p R).length := by
  rw [encD, List.length_map, srt_len (bareR_sel h p)]
section
variable {K : Nat} {gw : World} {s : St}
attribute [local simp] awanted xop zOf zrow aop ev T0 Slots.put Slots.set Slots.get awr WOk AV.may ofConst abinop aint isConst St.get_push St.get_put St.live AV.fit AV.cells AV.one fieldOf afieldAddr aload ofCells astore splice May eqres env_ti FinP FinZ FinW ares aresL ares1 Fns.addP Fns.add Fns.a0 Fns.a1 Fns.a2 Fns.a3 Fns.a4 abuiltin alenOk alen aindex elemOfT elemId abuildSlice afill chunks ard aappend isSS AV.isStr aminmax placesOf abuild afield aidx isStrD isStrDesc astrop aslice asliceOk abound arange anext aextract aunop aeq AV.ck avseq aveq aconv aconvert onB_t onB_f List.range_succ ti0 ti1 ti2 ti3 ti4 ti5 ti6 ti7 ti8 ti9 ti10 ti11 ti12 ti13 ti14 ti15 ti16 ti17 ti18 ti19 ti20 ti21 ti22 ti23 ti24 ti25 ti26 ti27 ti28 ti29 ti30 ti31 ti32 ti33 ti34 ti35 ti36 ti37 ti38 ti39 ti40 ti41 ti42 ti43 ti44 ti45 ti46 ti47 ti48 ti49 ti50 ti51 ti52 ti53 ti54 ti55 ti56 ti57 ti58 ti59 ti60 ti61 ti62 ti63 ti64 ti65 ti66 ti67 ti68 ti69 ti70 ti71 ti72 ti73 ti74 ti75 ti76 ti77 ti78 ti79 ti80 ti81 ti82 ti83 ti84 ti85 ti86 ti87 ti88 ti89 ti90 ti91 ti92 ti93 ti94 ti95 ti96 ti97 ti98 ti99 ti100 ti101 ti102 ti103 ti104 ti105 ti106 ti107 ti108 ti109 ti110 ti111 ti112 ti113 ti114 ti115 ti116 ti117 ti118 ti119 ti120 ti121 ti122 ti123 ti124 ti125 ti126 ti127 ti128 ti129 ti130 ti131 ti132 ti133 ti134 ti135 ti136 ti137 ti138 ti139 ti140 ti141 ti142 ti143 ti144 ti145 ti146 ti147
set_option maxRecDepth 20000 in
set_option maxHeartbeats 4000000 in
theorem ft_Turns (hK : 0 < K) (hT : Tens gw) (L M : List (V × V)) (hL : L.length < 1073741824) (hM : M.length < 1073741824) : FT (env K gw) NoW 7 [.sl (pairs L), .sl (pairs M)] s (.bool true) s := by
  refine FT.pure (fn := Tryd.f7) (W1_ok hK hT) mixed Tryd.func7 (by kernel_rfl) (by rfl) rfl rfl (by simp) (by kernel_rfl) fun μ w => ?_
  have hsh := fun s2 : St => W1_shown (K := K) (gw := gw) (s := s2)
  have hpl : (pairs M).length = M.length := by simp [pairs]
  obtain ⟨s1, rid, l1, hfi, hE1, hR1, hl1⟩ := W1_filled (K := K) (gw := gw) (s := s) hK hT L hL
  have hn1 := hE1.nx
  have hv1 := hR1.live
  have hag0 := fill_age (L.take 40)
  have hfl := fillR_len (L.take 40)
  have htl : (L.take 40).length ≤ 40 := by simp; omega
  generalize hR0 : fillR (L.take 40) = R0 at *
  have hsn : slOr .nsl (ints []) := .inr ⟨rfl, rfl⟩
  have hsv : slOr .nsl (List.map V.cs []) := .inr ⟨rfl, rfl⟩
  have mv : ∀ (R : List (List V × Nat)) (only : Bool), matchV 2 R [] [] only = .tup [.sl (encD (srt (Sel (matQ [] [] only) R))), .int .i64 0] := fun R only => by simp [matchV, okC]
  have hm0 := Z_match (K := K) (gw := gw) (F := V2) hK hT hR1 (by omega) [] [] false (by simp) hsn hsv
  obtain ⟨s2, ids2, htu2, hids2, hE2, l2, hR2, hl2⟩ := Z_turn (K := K) (gw := gw) (F := V2) hK hT hR1 (by omega)
  have hb2 : ∀ j ∈ ids2, s.nx ≤ j := fun j hj => (hl1 j (hids2 j hj)).1
  have hl2' : ∀ j ∈ l2, s.nx ≤ j := fun j hj => (hl2 j hj).elim (fun h => (hl1 j h).1) fun h => by omega
  have hag1 : ∀ r ∈ R0.map tr, r.2 = 1 := fun r hr => by
    obtain ⟨q, hq, rfl⟩ := List.mem_map.1 hr
    simp [tr, hag0 q hq]
  have hl1' : (R0.map tr).length = R0.length := by simp
  generalize hR1e : R0.map tr = R1 at *
  have hm1 := Z_match (K := K) (gw := gw) (F := V2) hK hT hR2 (by omega) [] [] true (by simp) hsn hsv
  have hln := Z_len (K := K) (gw := gw) (F := V2) hK hT hR2
  have hde := Z_delta (K := K) (gw := gw) (F := V2) hK hT hR2 (by omega)
  rw [mv] at hm0 hm1
  rw [← W1_Z (by decide)] at hm0 htu2 hm1 hln hde
  rw [any_delta hag1] at htu2
  have hn2 := hE2.nx
  have z0 : (encD (srt (Sel (matQ [] [] false) R0))).length = 0 := by
    rw [enc_len hR1.bareR, sel_none]; rfl
    intro r hr; rw [mat_nil, hag0 r hr]; rfl
  have z1 : (encD (srt (Sel (matQ [] [] true) R1))).length = R1.length := by
    rw [enc_len hR2.bareR, sel_every, List.length_map]
    intro r hr; rw [mat_nil, hag1 r hr]; rfl
  have z2 : (encD (srt (Sel isDelta R1))).length = R1.length := by
    rw [enc_len hR2.bareR, sel_every, List.length_map]
    intro r hr; simp [isDelta, hag1 r hr]
  repeat' (first
    | refine WP.t ?_ | refine WP.k ?_ | refine WP.e ?_ | refine Qn ?_ | refine Qr ?_ | refine Qe ?_ | refine Bn ?_ | refine Br ?_ | refine Be ?_ | refine Bx (by decide) ?_
    | (refine RS.nl ?_; refine hk _ _ ?_; clear hk k)
    | ((first | refine RS.st fun A B hA hB => ?_ | refine RQ.st fun A B hA hB => ?_); simp [hsh, hfi, hv1, hm0, htu2, hm1, hln, hde, z0, z1, z2, hb2, onW_t, onW_f, onV_s]; first | ((first | refine hA _ _ _ ?_ ?_ | refine hA _ _ _ ?_ (by first | exact .inl rfl | exact .inr (by decide)) ?_); (focus (simp [hsh, hfi, hv1, hm0, htu2, hm1, hln, hde, z0, z1, z2, hb2] <;> omega)); clear hA hB A B) | (refine hB ?_; clear hA hB A B) | (refine onV_if ?_ ?_; (focus (first | omega | (refine ⟨?_, ?_⟩ <;> omega))); simp only [onV_s]; (first | refine hA _ _ _ ?_ ?_ | refine hA _ _ _ ?_ (by first | exact .inl rfl | exact .inr (by decide)) ?_); (focus (simp [hsh, hfi, hv1, hm0, htu2, hm1, hln, hde, z0, z1, z2, hb2] <;> omega)); clear hA hB A B))
    | (refine RQ.nl ?_; refine hk _ _ ?_; clear hk k)
    | refine WP.sr fun k hk => ?_ | refine WP.r fun k hk => ?_
    | refine WP.sd _ rfl fun k hk => ?_ | refine WP.d _ rfl fun k hk => ?_
    | (refine WP.cc fun A B hA hB => ?_; simp [hsh, hfi, hv1, hm0, htu2, hm1, hln, hde, z0, z1, z2, hb2, onB_t, onB_f]; first | (refine hA ?_; clear hA hB A B) | (refine hB ?_; clear hA hB A B) | (refine onB_if (fun h => hA ?_) (fun h => hB ?_) <;> clear hA hB A B))
    | refine WP.q ?_ | refine WP.b ?_)
  refine WP_loop (fun n T s' => ∃ (i : Nat) (l : List Nat), i ≤ M.length ∧ i ≤ 40 ∧ n + i = M.length ∧ T.get 1 = .sl (pairs M) ∧ T.get 5 = .bool true ∧ T.get 6 = .ptr rid 0 ∧ T.get 12 = .int .i64 R1.length ∧ T.get 14 = .int .i64 i ∧
    T.get 13 = .int .i64 ((((foldA R1 (M.take i)).length - R1.length : Nat)) : Int) ∧ s.nx ≤ s'.nx ∧ RelP s' l rid 2 (foldA R1 (M.take i)) ∧ ∀ j ∈ l, s.nx ≤ j) M.length
    ⟨0, l2, by omega, by omega, by simp, by simp, by simp, by simp, by simp, by simp, by simp [foldA], by omega, by simpa [foldA] using hR2, hl2'⟩ ?_
  rintro n T s' ⟨i, l, hi1, hi2, hni, g1, g5, g6, g12, g14, g13, hnx, hR, hl⟩
  have hfm := foldA_len R1 (M.take i)
  have htm : (M.take i).length ≤ 40 := by simp; omega
  have exit : (¬ i < M.length ∨ ¬ i < 40) → foldA R1 (M.take i) = foldA R1 (M.take 40) := fun h => by
    rcases h with h | h
    · have : i = M.length := by omega
      rw [this, List.take_length, List.take_of_length_le (by omega)]
    · have : i = 40 := by omega
      rw [this]
  by_cases hlt40 : i < M.length ∧ i < 40
  · obtain ⟨hi, h40⟩ := hlt40
    have hlt : ((i : Int) < (M.length : Int)) := by omega
    have hlt2 : ((i : Int) < 40) := by omega
    have hw : IntKind.i64.wrap ((i : Int) + 1) = (i : Int) + 1 := wrap64 (by omega) (by omega)
    have hft := foldA_take (R := R1) hi
    have ha3 : ∀ h : i < (pairs M).length, (pairs M)[i]'h = pc M[i] := fun h => by simp [pairs]
    obtain ⟨s3, ids, hadd, hids, hE3, l3, hR3, hl3⟩ := Z_add (K := K) (gw := gw) (F := V2) hK hT hR (pr M[i]) (by omega)
    rw [← W1_Z (by decide)] at hadd
    rw [← hft] at hR3
    have hids2' : ∀ j ∈ ids, s.nx ≤ j := fun j hj => hl j (hids j hj)
    have hn3 := hE3.nx
    generalize hv : M[i] = v at *
    have hcs : List.map V.cs (pr v) = [v.1.cs, v.2.cs] := rfl
    rw [hcs] at hadd
    simp only [V.cs] at hadd
    have hlp : (pr v).length = 2 := rfl
    have hle : R1.length ≤ (foldA R1 (M.take i)).length := by
      obtain ⟨X, hX, _⟩ := foldA_app (M.take i) R1
      rw [hX]; simp
    cases ha : addOk 2 (foldA R1 (M.take i)) (pr v) with
    | true =>
      have hlen : (foldA R1 (M.take (i + 1))).length = (foldA R1 (M.take i)).length + 1 := by rw [hft, addR, ha]; simp
      have hmo : IntKind.i64.wrap ((((foldA R1 (M.take i)).length - R1.length : Nat) : Int) + 1) = (((foldA R1 (M.take (i + 1))).length - R1.length : Nat) : Int) := by
        rw [wrap64 (by omega) (by omega), hlen]; omega
      simp only [addV, ha, hlp, if_true] at hadd
      generalize (foldA R1 (M.take i)).length - R1.length = mo at *
      repeat' (first
        | (refine WP.swb true 17 (by decide) (by decide) (Keep s' []) fun k hk => ?_)
        | refine WP.t ?_ | refine WP.k ?_ | refine WP.e ?_ | refine Qn ?_ | refine Qr ?_ | refine Qe ?_ | refine Bn ?_ | refine Br ?_ | refine Be ?_ | refine Bx (by decide) ?_
        | (refine RS.nl ?_; refine hk _ _ ?_; clear hk k)
        | ((first | refine RS.st fun A B hA hB => ?_ | refine RQ.st fun A B hA hB => ?_); simp [g1, g5, g6, g12, g13, g14, hlt, hlt2, hi, h40, hw, hpl, ha3, pc, V.cs, hadd, hids2', hv, sz25, hmo, onW_t, onW_f, onV_s]; first | ((first | refine hA _ _ _ ?_ ?_ | refine hA _ _ _ ?_ (by first | exact .inl rfl | exact .inr (by decide)) ?_); (focus (simp [g1, g5, g6, g12, g13, g14, hlt, hlt2, hi, h40, hw, hpl, ha3, pc, V.cs, hadd, hids2', hv, sz25, hmo] <;> omega)); clear hA hB A B) | (refine hB ?_; clear hA hB A B) | (refine onV_if ?_ ?_; (focus (first | omega | (refine ⟨?_, ?_⟩ <;> omega))); simp only [onV_s]; (first | refine hA _ _ _ ?_ ?_ | refine hA _ _ _ ?_ (by first | exact .inl rfl | exact .inr (by decide)) ?_); (focus (simp [g1, g5, g6, g12, g13, g14, hlt, hlt2, hi, h40, hw, hpl, ha3, pc, V.cs, hadd, hids2', hv, sz25, hmo] <;> omega)); clear hA hB A B))
        | (refine RQ.nl ?_; refine hk _ _ ?_; clear hk k)
        | (refine RW.nl ?_ ?_; (focus (first | exact .inl (by decide) | (refine .inr ?_; (simp [g1, g5, g6, g12, g13, g14, hlt, hlt2, hi, h40, hw, hpl, ha3, pc, V.cs, hadd, hids2', hv, sz25, hmo] <;> omega)))); refine hk _ _ ?_; clear hk k)
        | (refine RW.st ?_ fun A B hA hB => ?_; (focus (first | exact .inl (by decide) | (refine .inr ?_; (simp [g1, g5, g6, g12, g13, g14, hlt, hlt2, hi, h40, hw, hpl, ha3, pc, V.cs, hadd, hids2', hv, sz25, hmo] <;> omega)))); simp [g1, g5, g6, g12, g13, g14, hlt, hlt2, hi, h40, hw, hpl, ha3, pc, V.cs, hadd, hids2', hv, sz25, hmo, onW_t, onW_f, onV_s]; first | (refine hA _ _ _ ?_ ?_ ?_ ?_; (focus (simp [g1, g5, g6, g12, g13, g14, hlt, hlt2, hi, h40, hw, hpl, ha3, pc, V.cs, hadd, hids2', hv, sz25, hmo] <;> omega)); (focus (first | exact .inl (by decide) | exact .inr (.inl rfl) | exact .inr (.inr rfl))); (focus (first | exact .inl (by decide) | exact .inr (.inl (by decide)) | (refine .inr (.inr fun s2 hs2 => ?_); have hs2n := hs2.nx; simp only [Keep_cons, Keep_nil] at hs2; simp [g1, g5, g6, g12, g13, g14, hlt, hlt2, hi, h40, hw, hpl, ha3, pc, V.cs, hadd, hids2', hv, sz25, hmo, hs2, hs2n]; done))); clear hA hB A B) | (refine hB ?_; clear hA hB A B))
        | refine WP.sr fun k hk => ?_ | refine WP.r fun k hk => ?_
        | (refine WP.swK [] ?_ fun k hk => ?_; (focus (decide))) | (refine WP.wK [] ?_ fun k hk => ?_; (focus (decide))) | refine WP.sd _ rfl fun k hk => ?_ | refine WP.d _ rfl fun k hk => ?_
        | (refine WP.cc fun A B hA hB => ?_; simp [g1, g5, g6, g12, g13, g14, hlt, hlt2, hi, h40, hw, hpl, ha3, pc, V.cs, hadd, hids2', hv, sz25, hmo, onB_t, onB_f]; first | (refine hA ?_; clear hA hB A B) | (refine hB ?_; clear hA hB A B) | (refine onB_if (fun h => hA ?_) (fun h => hB ?_) <;> clear hA hB A B))
        | refine WP.q ?_ | refine WP.b ?_)
      exact ⟨n - 1, by omega, i + 1, l3, by omega, by omega, by omega, by simp [g1], by simp [g5], by simp [g6], by simp [g12], by simp, by simp, by omega, hR3, fun j hj => (hl3 j hj).elim (fun h => hl j h) fun h => by omega⟩
    | false =>
      have hlen : (foldA R1 (M.take (i + 1))).length = (foldA R1 (M.take i)).length := by rw [hft, addR, ha]; simp
      simp only [addV, ha, hlp, if_true] at hadd
      repeat' (first
        | (refine WP.swb true 17 (by decide) (by decide) (Keep s' []) fun k hk => ?_)
        | refine WP.t ?_ | refine WP.k ?_ | refine WP.e ?_ | refine Qn ?_ | refine Qr ?_ | refine Qe ?_ | refine Bn ?_ | refine Br ?_ | refine Be ?_ | refine Bx (by decide) ?_
        | (refine RS.nl ?_; refine hk _ _ ?_; clear hk k)
        | ((first | refine RS.st fun A B hA hB => ?_ | refine RQ.st fun A B hA hB => ?_); simp [g1, g5, g6, g12, g13, g14, hlt, hlt2, hi, h40, hw, hpl, ha3, pc, V.cs, hadd, hids2', hv, sz25, onW_t, onW_f, onV_s]; first | ((first | refine hA _ _ _ ?_ ?_ | refine hA _ _ _ ?_ (by first | exact .inl rfl | exact .inr (by decide)) ?_); (focus (simp [g1, g5, g6, g12, g13, g14, hlt, hlt2, hi, h40, hw, hpl, ha3, pc, V.cs, hadd, hids2', hv, sz25] <;> omega)); clear hA hB A B) | (refine hB ?_; clear hA hB A B) | (refine onV_if ?_ ?_; (focus (first | omega | (refine ⟨?_, ?_⟩ <;> omega))); simp only [onV_s]; (first | refine hA _ _ _ ?_ ?_ | refine hA _ _ _ ?_ (by first | exact .inl rfl | exact .inr (by decide)) ?_); (focus (simp [g1, g5, g6, g12, g13, g14, hlt, hlt2, hi, h40, hw, hpl, ha3, pc, V.cs, hadd, hids2', hv, sz25] <;> omega)); clear hA hB A B))
        | (refine RQ.nl ?_; refine hk _ _ ?_; clear hk k)
        | (refine RW.nl ?_ ?_; (focus (first | exact .inl (by decide) | (refine .inr ?_; (simp [g1, g5, g6, g12, g13, g14, hlt, hlt2, hi, h40, hw, hpl, ha3, pc, V.cs, hadd, hids2', hv, sz25] <;> omega)))); refine hk _ _ ?_; clear hk k)
        | (refine RW.st ?_ fun A B hA hB => ?_; (focus (first | exact .inl (by decide) | (refine .inr ?_; (simp [g1, g5, g6, g12, g13, g14, hlt, hlt2, hi, h40, hw, hpl, ha3, pc, V.cs, hadd, hids2', hv, sz25] <;> omega)))); simp [g1, g5, g6, g12, g13, g14, hlt, hlt2, hi, h40, hw, hpl, ha3, pc, V.cs, hadd, hids2', hv, sz25, onW_t, onW_f, onV_s]; first | (refine hA _ _ _ ?_ ?_ ?_ ?_; (focus (simp [g1, g5, g6, g12, g13, g14, hlt, hlt2, hi, h40, hw, hpl, ha3, pc, V.cs, hadd, hids2', hv, sz25] <;> omega)); (focus (first | exact .inl (by decide) | exact .inr (.inl rfl) | exact .inr (.inr rfl))); (focus (first | exact .inl (by decide) | exact .inr (.inl (by decide)) | (refine .inr (.inr fun s2 hs2 => ?_); have hs2n := hs2.nx; simp only [Keep_cons, Keep_nil] at hs2; simp [g1, g5, g6, g12, g13, g14, hlt, hlt2, hi, h40, hw, hpl, ha3, pc, V.cs, hadd, hids2', hv, sz25, hs2, hs2n]; done))); clear hA hB A B) | (refine hB ?_; clear hA hB A B))
        | refine WP.sr fun k hk => ?_ | refine WP.r fun k hk => ?_
        | (refine WP.swK [] ?_ fun k hk => ?_; (focus (decide))) | (refine WP.wK [] ?_ fun k hk => ?_; (focus (decide))) | refine WP.sd _ rfl fun k hk => ?_ | refine WP.d _ rfl fun k hk => ?_
        | (refine WP.cc fun A B hA hB => ?_; simp [g1, g5, g6, g12, g13, g14, hlt, hlt2, hi, h40, hw, hpl, ha3, pc, V.cs, hadd, hids2', hv, sz25, onB_t, onB_f]; first | (refine hA ?_; clear hA hB A B) | (refine hB ?_; clear hA hB A B) | (refine onB_if (fun h => hA ?_) (fun h => hB ?_) <;> clear hA hB A B))
        | refine WP.q ?_ | refine WP.b ?_)
      exact ⟨n - 1, by omega, i + 1, l3, by omega, by omega, by omega, by simp [g1], by simp [g5], by simp [g6], by simp [g12], by simp, by simp [g13, hlen], by omega, hR3, fun j hj => (hl3 j hj).elim (fun h => hl j h) fun h => by omega⟩
  · have hex := exit (by omega)
    obtain ⟨X, hX, hX0⟩ := foldA_app (M.take 40) R1
    rw [hex, hX] at g13 hR
    have hXl : X.length ≤ 40 := by
      have h1 := foldA_len R1 (M.take 40)
      rw [hX] at h1
      simp at h1
      omega
    have hsub : (R1 ++ X).length - R1.length = X.length := by simp
    rw [hsub] at g13
    obtain ⟨s3, ids3, htu3, hids3, hE3, l3, hR3, hl3⟩ := Z_turn (K := K) (gw := gw) (F := V2) hK hT hR (by simp; omega)
    have hb3 : ∀ j ∈ ids3, s.nx ≤ j := fun j hj => hl j (hids3 j hj)
    have hn3 := hE3.nx
    have hl3' : ∀ j ∈ l3, s.nx ≤ j := fun j hj => (hl3 j hj).elim (fun h => hl j h) fun h => by omega
    have hRa : ∀ r ∈ R1.map tr, r.2 = 2 := fun r hr => by
      obtain ⟨q, hq, rfl⟩ := List.mem_map.1 hr
      simp [tr, hag1 q hq]
    have hXa : ∀ r ∈ X.map tr, r.2 = 1 := fun r hr => by
      obtain ⟨q, hq, rfl⟩ := List.mem_map.1 hr
      simp [tr, hX0 q hq]
    have hRl : (R1.map tr).length = R1.length := by simp
    have hXl2 : (X.map tr).length = X.length := by simp
    rw [List.map_append] at htu3 hR3
    generalize R1.map tr = RA at *
    generalize X.map tr = XA at *
    have hany : (RA ++ XA).any isDelta = decide (0 < (X.length : Int)) := by
      rw [List.any_append, any_delta hXa, any_none fun r hr => by rw [hRa r hr]; omega, hXl2, Bool.false_or]
    rw [hany] at htu3
    have hd3 := Z_delta (K := K) (gw := gw) (F := V2) hK hT hR3 (by simp; omega)
    have hm3 := Z_match (K := K) (gw := gw) (F := V2) hK hT hR3 (by simp; omega) [] [] true (by simp) hsn hsv
    have hm4 := Z_match (K := K) (gw := gw) (F := V2) hK hT hR3 (by simp; omega) [] [] false (by simp) hsn hsv
    obtain ⟨s4, ids4, htu4, hids4, hE4, l4, hR4, hl4⟩ := Z_turn (K := K) (gw := gw) (F := V2) hK hT hR3 (by simp; omega)
    have hb4 : ∀ j ∈ ids4, s.nx ≤ j := fun j hj => hl3' j (hids4 j hj)
    rw [mv] at hm3 hm4
    have hno : ((RA ++ XA).map tr).any isDelta = false := any_none fun r hr => by
      obtain ⟨q, hq, rfl⟩ := List.mem_map.1 hr
      rcases List.mem_append.1 hq with hq | hq
      · simp [tr, hRa q hq]
      · simp [tr, hXa q hq]
    rw [hno] at htu4
    rw [← W1_Z (by decide)] at htu3 hd3 hm3 hm4 htu4
    have y1 : (encD (srt (Sel isDelta (RA ++ XA)))).length = X.length := by
      rw [enc_len hR3.bareR, sel_append, sel_none (R := RA) fun r hr => by simp [isDelta, hRa r hr], sel_every fun r hr => by simp [isDelta, hXa r hr]]
      simp [hXl2]
    have y2 : (encD (srt (Sel (matQ [] [] true) (RA ++ XA)))).length = X.length := by
      rw [enc_len hR3.bareR, sel_append, sel_none (R := RA) fun r hr => by rw [mat_nil, hRa r hr]; rfl, sel_every fun r hr => by rw [mat_nil, hXa r hr]; rfl]
      simp [hXl2]
    have y3 : (encD (srt (Sel (matQ [] [] false) (RA ++ XA)))).length = R1.length + X.length := by
      rw [enc_len hR3.bareR, sel_every fun r hr => ?_]
      · simp [hXl2, hRl]
      · rw [mat_nil]
        rcases List.mem_append.1 hr with hr | hr
        · rw [hRa r hr]; rfl
        · rw [hXa r hr]; rfl
    have hwa : IntKind.i64.wrap ((R1.length : Int) + (X.length : Int)) = ((R1.length : Int) + (X.length : Int)) := wrap64 (by omega) (by omega)
    by_cases hi : i < M.length
    · have h40 : ¬ i < 40 := fun h => hlt40 ⟨hi, h⟩
      have hlt2 : ¬ ((i : Int) < 40) := by omega
      repeat' (first
        | refine WP.t ?_ | refine WP.k ?_ | refine WP.e ?_ | refine Qn ?_ | refine Qr ?_ | refine Qe ?_ | refine Bn ?_ | refine Br ?_ | refine Be ?_ | refine Bx (by decide) ?_
        | (refine RS.nl ?_; refine hk _ _ ?_; clear hk k)
        | ((first | refine RS.st fun A B hA hB => ?_ | refine RQ.st fun A B hA hB => ?_); simp [g1, g5, g6, g12, g13, g14, hi, h40, hlt2, hpl, htu3, hd3, hm3, hm4, htu4, hb3, hb4, y1, y2, y3, hwa, onW_t, onW_f, onV_s]; first | ((first | refine hA _ _ _ ?_ ?_ | refine hA _ _ _ ?_ (by first | exact .inl rfl | exact .inr (by decide)) ?_); (focus (simp [g1, g5, g6, g12, g13, g14, hi, h40, hlt2, hpl, htu3, hd3, hm3, hm4, htu4, hb3, hb4, y1, y2, y3, hwa] <;> omega)); clear hA hB A B) | (refine hB ?_; clear hA hB A B) | (refine onV_if ?_ ?_; (focus (first | omega | (refine ⟨?_, ?_⟩ <;> omega))); simp only [onV_s]; (first | refine hA _ _ _ ?_ ?_ | refine hA _ _ _ ?_ (by first | exact .inl rfl | exact .inr (by decide)) ?_); (focus (simp [g1, g5, g6, g12, g13, g14, hi, h40, hlt2, hpl, htu3, hd3, hm3, hm4, htu4, hb3, hb4, y1, y2, y3, hwa] <;> omega)); clear hA hB A B))
        | (refine RQ.nl ?_; refine hk _ _ ?_; clear hk k)
        | refine WP.sr fun k hk => ?_ | refine WP.r fun k hk => ?_
        | refine WP.sd _ rfl fun k hk => ?_ | refine WP.d _ rfl fun k hk => ?_
        | (refine WP.cc fun A B hA hB => ?_; simp [g1, g5, g6, g12, g13, g14, hi, h40, hlt2, hpl, htu3, hd3, hm3, hm4, htu4, hb3, hb4, y1, y2, y3, hwa, onB_t, onB_f]; first | (refine hA ?_; clear hA hB A B) | (refine hB ?_; clear hA hB A B) | (refine onB_if (fun h => hA ?_) (fun h => hB ?_) <;> clear hA hB A B))
        | refine WP.q ?_ | refine WP.b ?_)
      simp
    · skip
      repeat' (first
        | refine WP.t ?_ | refine WP.k ?_ | refine WP.e ?_ | refine Qn ?_ | refine Qr ?_ | refine Qe ?_ | refine Bn ?_ | refine Br ?_ | refine Be ?_ | refine Bx (by decide) ?_
        | (refine RS.nl ?_; refine hk _ _ ?_; clear hk k)
        | ((first | refine RS.st fun A B hA hB => ?_ | refine RQ.st fun A B hA hB => ?_); simp [g1, g5, g6, g12, g13, g14, hi, hpl, htu3, hd3, hm3, hm4, htu4, hb3, hb4, y1, y2, y3, hwa, onW_t, onW_f, onV_s]; first | ((first | refine hA _ _ _ ?_ ?_ | refine hA _ _ _ ?_ (by first | exact .inl rfl | exact .inr (by decide)) ?_); (focus (simp [g1, g5, g6, g12, g13, g14, hi, hpl, htu3, hd3, hm3, hm4, htu4, hb3, hb4, y1, y2, y3, hwa] <;> omega)); clear hA hB A B) | (refine hB ?_; clear hA hB A B) | (refine onV_if ?_ ?_; (focus (first | omega | (refine ⟨?_, ?_⟩ <;> omega))); simp only [onV_s]; (first | refine hA _ _ _ ?_ ?_ | refine hA _ _ _ ?_ (by first | exact .inl rfl | exact .inr (by decide)) ?_); (focus (simp [g1, g5, g6, g12, g13, g14, hi, hpl, htu3, hd3, hm3, hm4, htu4, hb3, hb4, y1, y2, y3, hwa] <;> omega)); clear hA hB A B))
        | (refine RQ.nl ?_; refine hk _ _ ?_; clear hk k)
        | refine WP.sr fun k hk => ?_ | refine WP.r fun k hk => ?_
        | refine WP.sd _ rfl fun k hk => ?_ | refine WP.d _ rfl fun k hk => ?_
        | (refine WP.cc fun A B hA hB => ?_; simp [g1, g5, g6, g12, g13, g14, hi, hpl, htu3, hd3, hm3, hm4, htu4, hb3, hb4, y1, y2, y3, hwa, onB_t, onB_f]; first | (refine hA ?_; clear hA hB A B) | (refine hB ?_; clear hA hB A B) | (refine onB_if (fun h => hA ?_) (fun h => hB ?_) <;> clear hA hB A B))
        | refine WP.q ?_ | refine WP.b ?_)
      simp
end
end Go.Am
