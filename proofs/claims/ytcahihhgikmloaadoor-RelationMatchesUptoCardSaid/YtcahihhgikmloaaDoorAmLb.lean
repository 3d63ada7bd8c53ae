/- Part of the proof: abstract values over the given model of Go (L2). Conditions: none of its own; see the statement in the seat's Rows text. -/
import Derived.Test.YtcahihhgikmloaaDoorAmLa
set_option linter.unusedSimpArgs false
set_option linter.unusedVariables false
set_option linter.unusedSectionVars false
namespace Go.Am
open Go.Proofs
def dup (p : V × V) : List (V × V) := [p, p]
def backT (L : List (V × V)) (k : Nat) : List (V × V) := (L.drop k).reverse.flatMap dup
theorem backT_succ {L : List (V × V)} {k : Nat} (h : k < L.length) : backT L k = backT L (k + 1) ++ [L[k], L[k]] := by
  unfold backT
  rw [List.drop_eq_getElem_cons h, List.reverse_cons, List.flatMap_append]
  rfl
theorem backT_len (L : List (V × V)) (k : Nat) : (backT L k).length = 2 * (L.length - k) := by
  unfold backT
  rw [List.length_flatMap]
  have : ∀ l : List (V × V), (l.map fun a => (dup a).length).sum = 2 * l.length := by
    intro l
    induction l with
    | nil => rfl
    | cons a l ih => simp only [List.map_cons, List.sum_cons, ih, List.length_cons]; show 2 + _ = _; omega
  rw [this]
  simp
theorem backT_mem (L : List (V × V)) (p : V × V) : p ∈ backT L 0 ↔ p ∈ L := by
  simp [backT, dup]
theorem order_law (L : List (V × V)) : (fillR L).length = (fillR (backT L 0)).length ∧ srt (Sel (fun _ => true) (fillR L)) = srt (Sel (fun _ => true) (fillR (backT L 0))) := by
  have hA := fillR_bare L
  have hB := fillR_bare (backT L 0)
  have hm : ∀ x, x ∈ (fillR L).map (·.1) ↔ x ∈ (fillR (backT L 0)).map (·.1) := fun x => by
    rw [fillR_mem, fillR_mem]
    simp only [backT_mem]
  constructor
  · have h1 := nodup_le hA.nd fun x hx => (hm x).1 hx
    have h2 := nodup_le hB.nd fun x hx => (hm x).2 hx
    simp only [List.length_map] at h1 h2
    omega
  · rw [sel_all, sel_all]
    exact srt_ext hA hB hm
theorem sel_row {s : St} {l : List Nat} {rid ar : Nat} {R : List (List V × Nat)} (h : RelP s l rid ar R) (p : List V × Nat → Bool) : ∀ t ∈ srt (Sel p R), t.length < 1000 := fun t ht => by
  have hb : BareR R := ⟨h.ok.2.2, fun r hr => by
    obtain ⟨q, hq, rfl⟩ := List.mem_map.1 hr
    exact (h.ok.2.1 q hq).2.1⟩
  have := (srt_mem (bareR_sel hb p) t).1 ht
  obtain ⟨q, hq, rfl⟩ := List.mem_map.1 this
  have h1 := (h.ok.2.1 q (List.mem_filter.1 hq).1).1
  have h2 := h.ok.1
  omega
theorem RelP.bareR {s : St} {l : List Nat} {rid ar : Nat} {R : List (List V × Nat)} (h : RelP s l rid ar R) : BareR R := ⟨h.ok.2.2, fun r hr => by
    obtain ⟨q, hq, rfl⟩ := List.mem_map.1 hr
    exact (h.ok.2.1 q hq).2.1⟩
section
variable {K : Nat} {gw : World} {s : St}
attribute [local simp] awanted xop zOf zrow aop ev T0 Slots.put Slots.set Slots.get awr WOk AV.may ofConst abinop aint isConst St.get_push St.get_put St.live AV.fit AV.cells AV.one fieldOf afieldAddr aload ofCells astore splice May eqres env_ti FinP FinZ FinW ares aresL ares1 Fns.addP Fns.add Fns.a0 Fns.a1 Fns.a2 Fns.a3 Fns.a4 abuiltin alenOk alen aindex elemOfT elemId abuildSlice afill chunks ard aappend isSS AV.isStr aminmax placesOf abuild afield aidx isStrD isStrDesc astrop aslice asliceOk abound arange anext aextract aunop aeq AV.ck avseq aveq aconv aconvert onB_t onB_f List.range_succ ti0 ti1 ti2 ti3 ti4 ti5 ti6 ti7 ti8 ti9 ti10 ti11 ti12 ti13 ti14 ti15 ti16 ti17 ti18 ti19 ti20 ti21 ti22 ti23 ti24 ti25 ti26 ti27 ti28 ti29 ti30 ti31 ti32 ti33 ti34 ti35 ti36 ti37 ti38 ti39 ti40 ti41 ti42 ti43 ti44 ti45 ti46 ti47 ti48 ti49 ti50 ti51 ti52 ti53 ti54 ti55 ti56 ti57 ti58 ti59 ti60 ti61 ti62 ti63 ti64 ti65 ti66 ti67 ti68 ti69 ti70 ti71 ti72 ti73 ti74 ti75 ti76 ti77 ti78 ti79 ti80 ti81 ti82 ti83 ti84 ti85 ti86 ti87 ti88 ti89 ti90 ti91 ti92 ti93 ti94 ti95 ti96 ti97 ti98 ti99 ti100 ti101 ti102 ti103 ti104 ti105 ti106 ti107 ti108 ti109 ti110 ti111 ti112 ti113 ti114 ti115 ti116 ti117 ti118 ti119 ti120 ti121 ti122 ti123 ti124 ti125 ti126 ti127 ti128 ti129 ti130 ti131 ti132 ti133 ti134 ti135 ti136 ti137 ti138 ti139 ti140 ti141 ti142 ti143 ti144 ti145 ti146 ti147
theorem below_pairs (n : Nat) (L : List (V × V)) : ∀ e ∈ pairs L, ∀ x ∈ e, Below n x := fun e he x hx => by
  obtain ⟨p, _, rfl⟩ := List.mem_map.1 he
  rcases List.mem_append.1 hx with hx | hx
  · exact below_agg.1 (below_cs p.1 n) x hx
  · exact below_agg.1 (below_cs p.2 n) x hx
set_option maxRecDepth 20000 in
theorem ft_Order (hK : 0 < K) (hT : Tens gw) (L : List (V × V)) (hL : L.length < 1073741824) : FT (env K gw) NoW 3 [.sl (pairs L)] s (.bool true) s := by
  refine FT.pure (fn := Tryd.f3) (W1_ok hK hT) mixed Tryd.func3 (by kernel_rfl) (by rfl) rfl rfl (by simp) (by kernel_rfl) fun μ w => ?_
  have hsh := fun s2 : St => W1_shown (K := K) (gw := gw) (s := s2)
  have hpl : (pairs L).length = L.length := by simp [pairs]
  by_cases h40 : 40 < L.length
  · have h40i : (40 : Int) < (L.length : Int) := by omega
    repeat' (first
      | refine WP.t ?_ | refine WP.k ?_ | refine WP.e ?_ | refine Qn ?_ | refine Qr ?_ | refine Qe ?_ | refine Bn ?_ | refine Br ?_ | refine Be ?_ | refine Bx (by decide) ?_
      | (refine RS.nl ?_; refine hk _ _ ?_; clear hk k)
      | ((first | refine RS.st fun A B hA hB => ?_ | refine RQ.st fun A B hA hB => ?_); simp [hsh, hpl, h40, h40i, onW_t, onW_f, onV_s]; first | ((first | refine hA _ _ _ ?_ ?_ | refine hA _ _ _ ?_ (by first | exact .inl rfl | exact .inr (by decide)) ?_); (focus (simp [hsh, hpl, h40, h40i] <;> omega)); clear hA hB A B) | (refine hB ?_; clear hA hB A B) | (refine onV_if ?_ ?_; (focus (first | omega | (refine ⟨?_, ?_⟩ <;> omega))); simp only [onV_s]; (first | refine hA _ _ _ ?_ ?_ | refine hA _ _ _ ?_ (by first | exact .inl rfl | exact .inr (by decide)) ?_); (focus (simp [hsh, hpl, h40, h40i] <;> omega)); clear hA hB A B))
      | (refine RQ.nl ?_; refine hk _ _ ?_; clear hk k)
      | refine WP.sr fun k hk => ?_ | refine WP.r fun k hk => ?_
      | refine WP.sd _ rfl fun k hk => ?_ | refine WP.d _ rfl fun k hk => ?_
      | (refine WP.cc fun A B hA hB => ?_; simp [hsh, hpl, h40, h40i, onB_t, onB_f]; first | (refine hA ?_; clear hA hB A B) | (refine hB ?_; clear hA hB A B) | (refine onB_if (fun h => hA ?_) (fun h => hB ?_) <;> clear hA hB A B))
      | refine WP.q ?_ | refine WP.b ?_)
    simp
  have h40i : ¬ (40 : Int) < (L.length : Int) := by omega
  have hw0 : IntKind.i64.wrap ((L.length : Int) - 1) = (L.length : Int) - 1 := wrap64 (by omega) (by omega)
  repeat' (first
    | refine WP.t ?_ | refine WP.k ?_ | refine WP.e ?_ | refine Qn ?_ | refine Qr ?_ | refine Qe ?_ | refine Bn ?_ | refine Br ?_ | refine Be ?_ | refine Bx (by decide) ?_
    | (refine RS.nl ?_; refine hk _ _ ?_; clear hk k)
    | ((first | refine RS.st fun A B hA hB => ?_ | refine RQ.st fun A B hA hB => ?_); simp [hsh, hpl, h40, h40i, hw0, onW_t, onW_f, onV_s]; first | ((first | refine hA _ _ _ ?_ ?_ | refine hA _ _ _ ?_ (by first | exact .inl rfl | exact .inr (by decide)) ?_); (focus (simp [hsh, hpl, h40, h40i, hw0] <;> omega)); clear hA hB A B) | (refine hB ?_; clear hA hB A B) | (refine onV_if ?_ ?_; (focus (first | omega | (refine ⟨?_, ?_⟩ <;> omega))); simp only [onV_s]; (first | refine hA _ _ _ ?_ ?_ | refine hA _ _ _ ?_ (by first | exact .inl rfl | exact .inr (by decide)) ?_); (focus (simp [hsh, hpl, h40, h40i, hw0] <;> omega)); clear hA hB A B))
    | (refine RQ.nl ?_; refine hk _ _ ?_; clear hk k)
    | refine WP.sr fun k hk => ?_ | refine WP.r fun k hk => ?_
    | refine WP.sd _ rfl fun k hk => ?_ | refine WP.d _ rfl fun k hk => ?_
    | (refine WP.cc fun A B hA hB => ?_; simp [hsh, hpl, h40, h40i, hw0, onB_t, onB_f]; first | (refine hA ?_; clear hA hB A B) | (refine hB ?_; clear hA hB A B) | (refine onB_if (fun h => hA ?_) (fun h => hB ?_) <;> clear hA hB A B))
    | refine WP.q ?_ | refine WP.b ?_)
  refine WP_loop (fun n T s' => n ≤ L.length ∧ T.get 0 = .sl (pairs L) ∧ T.get 3 = .bool true ∧ T.get 5 = .int .i64 ((n : Int) - 1) ∧ s.nx ≤ s'.nx ∧
    ((n = L.length ∧ T.get 4 = .nsl) ∨ (n < L.length ∧ ∃ rd, s.nx ≤ rd ∧ rd < s'.nx ∧ T.get 4 = .ls rd 0 (backT L n).length ∧ s'.get rd = some (.row 6 (true, 26) (pairs (backT L n)))))) L.length
    ⟨Nat.le_refl _, by simp, by simp, by simp, by simp, .inl ⟨rfl, by simp⟩⟩ ?_
  rintro n T s' ⟨hn, g0, g3, g5, hnx, hB⟩
  by_cases hn0 : n = 0
  · subst hn0
    have hpre : ∃ T1 s1, Gh s.nx T s' T1 s1 ∧ T1.get 4 = .sl (pairs (backT L 0)) ∧ T1.get 0 = .sl (pairs L) ∧ T1.get 3 = .bool true ∧ T1.get 5 = .int .i64 (-1) ∧ s.nx ≤ s1.nx := by
      rcases hB with ⟨h0, g4⟩ | ⟨hi0, rd, hrd, hrd2, g4, hr4⟩
      · have : L = [] := List.eq_nil_of_length_eq_zero h0.symm
        subst this
        exact ⟨T.set 4 (.sl []), s', .nl 4 g4 (.refl _ _), by simp [Slots.get_set', pairs, backT], by simp [Slots.get_set', g0], by simp [Slots.get_set', g3], by simp [Slots.get_set', g5], hnx⟩
      · have hln : (backT L 0).length = (pairs (backT L 0)).length := by simp [pairs]
        exact ⟨T.set 4 (.sl (pairs (backT L 0))), s'.drop rd, .fz 4 rd 6 _ _ (by rw [g4, hln]) hr4 hrd (.refl _ _), by simp [Slots.get_set'], by simp [Slots.get_set', g0], by simp [Slots.get_set', g3], by simp [Slots.get_set', g5], by simpa using hnx⟩
    obtain ⟨T1, s1, hgh, f4, f0, f3, f5, hn1⟩ := hpre
    refine WP.gh hgh ?_
    have hneg : ¬ ((0 : Int) ≤ -1) := by omega
    obtain ⟨sA, rida, la, hfa, hEA, hRA, hla⟩ := W1_filled (K := K) (gw := gw) (s := s1) hK hT L hL
    have ht40 : L.take 40 = L := List.take_of_length_le (by omega)
    rw [ht40] at hRA
    have hnA := hEA.nx
    obtain ⟨sB, ridb, lb, hnb', hEB, hRB, hlb⟩ := Z_new (K := K) (gw := gw) (F := V2) (s := sA) 2 (by omega)
    rw [← W1_Z (by decide)] at hnb'
    have hnb : W1 K gw 11 [.int .i64 2] sA = some (.ptr ridb 0, sB, []) := hnb'
    have hnB := hEB.nx
    have hva : (sB.get rida).isSome = true := by rw [hEB.same rida (hla rida hRA.mem).2 (by simp)]; exact hRA.live
    have hvb := hRB.live
    have hRA2 : RelP sB la rida 2 (fillR L) := hRA.keep hnB fun i hi => hEB.same i (hla i hi).2 (by simp)
    have hbl := backT_len L 0
    repeat' (first
      | refine WP.t ?_ | refine WP.k ?_ | refine WP.e ?_ | refine Qn ?_ | refine Qr ?_ | refine Qe ?_ | refine Bn ?_ | refine Br ?_ | refine Be ?_ | refine Bx (by decide) ?_
      | (refine RS.nl ?_; refine hk _ _ ?_; clear hk k)
      | ((first | refine RS.st fun A B hA hB => ?_ | refine RQ.st fun A B hA hB => ?_); simp [f0, f3, f4, f5, hneg, hfa, hnb, hva, hvb, onW_t, onW_f, onV_s]; first | ((first | refine hA _ _ _ ?_ ?_ | refine hA _ _ _ ?_ (by first | exact .inl rfl | exact .inr (by decide)) ?_); (focus (simp [f0, f3, f4, f5, hneg, hfa, hnb, hva, hvb] <;> omega)); clear hA hB A B) | (refine hB ?_; clear hA hB A B) | (refine onV_if ?_ ?_; (focus (first | omega | (refine ⟨?_, ?_⟩ <;> omega))); simp only [onV_s]; (first | refine hA _ _ _ ?_ ?_ | refine hA _ _ _ ?_ (by first | exact .inl rfl | exact .inr (by decide)) ?_); (focus (simp [f0, f3, f4, f5, hneg, hfa, hnb, hva, hvb] <;> omega)); clear hA hB A B))
      | (refine RQ.nl ?_; refine hk _ _ ?_; clear hk k)
      | refine WP.sr fun k hk => ?_ | refine WP.r fun k hk => ?_
      | refine WP.sd _ rfl fun k hk => ?_ | refine WP.d _ rfl fun k hk => ?_
      | (refine WP.cc fun A B hA hB => ?_; simp [f0, f3, f4, f5, hneg, hfa, hnb, hva, hvb, onB_t, onB_f]; first | (refine hA ?_; clear hA hB A B) | (refine hB ?_; clear hA hB A B) | (refine onB_if (fun h => hA ?_) (fun h => hB ?_) <;> clear hA hB A B))
      | refine WP.q ?_ | refine WP.b ?_)
    refine WP_loop (fun n T s' => ∃ (i : Nat) (l : List Nat), n + i = (backT L 0).length ∧ T.get 3 = .bool true ∧ T.get 4 = .sl (pairs (backT L 0)) ∧ T.get 6 = .ptr rida 0 ∧ T.get 7 = .ptr ridb 0 ∧ T.get 8 = .int .i64 i ∧
      sA.nx ≤ s'.nx ∧ RelP s' la rida 2 (fillR L) ∧ RelP s' l ridb 2 (fillR ((backT L 0).take i)) ∧ ∀ j ∈ l, sA.nx ≤ j) (backT L 0).length
      ⟨0, lb, by simp, by simp [f3], by simp [f4], by simp, by simp, by simp, hnB, hRA2, by simpa [fillR] using hRB, fun j hj => (hlb j hj).1⟩ ?_
    rintro n T s2 ⟨i, l, hni, g3, g4, g6, g7, g8, hn2, hPA, hPB, hl⟩
    have hpb : (pairs (backT L 0)).length = (backT L 0).length := by simp [pairs]
    have hfl := fillR_len ((backT L 0).take i)
    have htl : ((backT L 0).take i).length ≤ 80 := by simp; omega
    by_cases hi : i < (backT L 0).length
    · have hlt : ((i : Int) < ((backT L 0).length : Int)) := by omega
      have hw : IntKind.i64.wrap ((i : Int) + 1) = (i : Int) + 1 := wrap64 (by omega) (by omega)
      have hft := fillR_take hi
      have ha3 : ∀ h : i < (pairs (backT L 0)).length, (pairs (backT L 0))[i]'h = pc (backT L 0)[i] := fun h => by simp [pairs]
      obtain ⟨s3, ids, hadd, hids, hE2, l2, hR2, hl2⟩ := Z_add (K := K) (gw := gw) (F := V2) hK hT hPB (pr (backT L 0)[i]) (by omega)
      rw [← W1_Z (by decide)] at hadd
      rw [← hft] at hR2
      have hids2 : ∀ j ∈ ids, s.nx ≤ j := fun j hj => by have := hl j (hids j hj); omega
      have hPA3 : RelP s3 la rida 2 (fillR L) := hPA.keep hE2.nx fun j hj => hE2.same j (hPA.own j hj).1 fun hm => by
        have h1 := hl j hm
        have h2 := (hla j hj).2
        omega
      generalize hv : (backT L 0)[i] = v at *
      have hcs : List.map V.cs (pr v) = [v.1.cs, v.2.cs] := rfl
      rw [hcs] at hadd
      simp only [V.cs] at hadd
      have hn3 := hE2.nx
      repeat' (first
        | refine WP.t ?_ | refine WP.k ?_ | refine WP.e ?_ | refine Qn ?_ | refine Qr ?_ | refine Qe ?_ | refine Bn ?_ | refine Br ?_ | refine Be ?_ | refine Bx (by decide) ?_
        | (refine RS.nl ?_; refine hk _ _ ?_; clear hk k)
        | ((first | refine RS.st fun A B hA hB => ?_ | refine RQ.st fun A B hA hB => ?_); simp [g3, g4, g6, g7, g8, hlt, hi, hw, hpb, ha3, pc, V.cs, hadd, hids2, hv, sz25, onW_t, onW_f, onV_s]; first | ((first | refine hA _ _ _ ?_ ?_ | refine hA _ _ _ ?_ (by first | exact .inl rfl | exact .inr (by decide)) ?_); (focus (simp [g3, g4, g6, g7, g8, hlt, hi, hw, hpb, ha3, pc, V.cs, hadd, hids2, hv, sz25] <;> omega)); clear hA hB A B) | (refine hB ?_; clear hA hB A B) | (refine onV_if ?_ ?_; (focus (first | omega | (refine ⟨?_, ?_⟩ <;> omega))); simp only [onV_s]; (first | refine hA _ _ _ ?_ ?_ | refine hA _ _ _ ?_ (by first | exact .inl rfl | exact .inr (by decide)) ?_); (focus (simp [g3, g4, g6, g7, g8, hlt, hi, hw, hpb, ha3, pc, V.cs, hadd, hids2, hv, sz25] <;> omega)); clear hA hB A B))
        | (refine RQ.nl ?_; refine hk _ _ ?_; clear hk k)
        | refine WP.sr fun k hk => ?_ | refine WP.r fun k hk => ?_
        | refine WP.sd _ rfl fun k hk => ?_ | refine WP.d _ rfl fun k hk => ?_
        | (refine WP.cc fun A B hA hB => ?_; simp [g3, g4, g6, g7, g8, hlt, hi, hw, hpb, ha3, pc, V.cs, hadd, hids2, hv, sz25, onB_t, onB_f]; first | (refine hA ?_; clear hA hB A B) | (refine hB ?_; clear hA hB A B) | (refine onB_if (fun h => hA ?_) (fun h => hB ?_) <;> clear hA hB A B))
        | refine WP.q ?_ | refine WP.b ?_)
      exact ⟨n - 1, by omega, i + 1, l2, by omega, by simp [g3], by simp [g4], by simp [g6], by simp [g7], by simp, by omega, hPA3, hR2, fun j hj => (hl2 j hj).elim (fun h => hl j h) fun h => by omega⟩
    · have hlt : ¬ ((i : Int) < ((backT L 0).length : Int)) := by omega
      have he : (backT L 0).take i = backT L 0 := List.take_of_length_le (by omega)
      rw [he] at hPB hfl
      have hla2 := Z_len (K := K) (gw := gw) (F := V2) hK hT hPA
      have hlb2 := Z_len (K := K) (gw := gw) (F := V2) hK hT hPB
      have hfl2 := fillR_len L
      have haa := Z_all (K := K) (gw := gw) (F := V2) hK hT hPA (by omega)
      have hab := Z_all (K := K) (gw := gw) (F := V2) hK hT hPB (by omega)
      rw [← W1_Z (by decide)] at hla2 hlb2 haa hab
      obtain ⟨o1, o2⟩ := order_law L
      have hsl := srt_all_len (fillR_bare L)
      have hro := W1_rows (K := K) (gw := gw) (s := s2) (srt (Sel (fun _ => true) (fillR L))) (by omega) (sel_row hPA _)
      rw [← o1] at hlb2
      rw [← o2] at hab
      have hel : (encD (srt (Sel (fun _ => true) (fillR L)))).length = (fillR L).length := by rw [encD, List.length_map, hsl]
      repeat' (first
        | refine WP.t ?_ | refine WP.k ?_ | refine WP.e ?_ | refine Qn ?_ | refine Qr ?_ | refine Qe ?_ | refine Bn ?_ | refine Br ?_ | refine Be ?_ | refine Bx (by decide) ?_
        | (refine RS.nl ?_; refine hk _ _ ?_; clear hk k)
        | ((first | refine RS.st fun A B hA hB => ?_ | refine RQ.st fun A B hA hB => ?_); simp [g3, g4, g6, g7, g8, hlt, hi, hpb, hla2, hlb2, haa, hab, hro, hel, onW_t, onW_f, onV_s]; first | ((first | refine hA _ _ _ ?_ ?_ | refine hA _ _ _ ?_ (by first | exact .inl rfl | exact .inr (by decide)) ?_); (focus (simp [g3, g4, g6, g7, g8, hlt, hi, hpb, hla2, hlb2, haa, hab, hro, hel] <;> omega)); clear hA hB A B) | (refine hB ?_; clear hA hB A B) | (refine onV_if ?_ ?_; (focus (first | omega | (refine ⟨?_, ?_⟩ <;> omega))); simp only [onV_s]; (first | refine hA _ _ _ ?_ ?_ | refine hA _ _ _ ?_ (by first | exact .inl rfl | exact .inr (by decide)) ?_); (focus (simp [g3, g4, g6, g7, g8, hlt, hi, hpb, hla2, hlb2, haa, hab, hro, hel] <;> omega)); clear hA hB A B))
        | (refine RQ.nl ?_; refine hk _ _ ?_; clear hk k)
        | refine WP.sr fun k hk => ?_ | refine WP.r fun k hk => ?_
        | refine WP.sd _ rfl fun k hk => ?_ | refine WP.d _ rfl fun k hk => ?_
        | (refine WP.cc fun A B hA hB => ?_; simp [g3, g4, g6, g7, g8, hlt, hi, hpb, hla2, hlb2, haa, hab, hro, hel, onB_t, onB_f]; first | (refine hA ?_; clear hA hB A B) | (refine hB ?_; clear hA hB A B) | (refine onB_if (fun h => hA ?_) (fun h => hB ?_) <;> clear hA hB A B))
        | refine WP.q ?_ | refine WP.b ?_)
      simp
  · have hk : n - 1 < L.length := by omega
    have hge : (0 : Int) ≤ (n : Int) - 1 := by omega
    have hgt : 0 < n := by omega
    obtain ⟨k, rfl⟩ : ∃ k, n = k + 1 := ⟨n - 1, by omega⟩
    have hk2 : k < L.length := by omega
    have hke : ((k + 1 : Nat) : Int) - 1 = (k : Int) := by omega
    rw [hke] at g5
    have hbs := backT_succ hk2
    have ha3 : ∀ h : k < (pairs L).length, (pairs L)[k]'h = pc L[k] := fun h => by simp [pairs]
    have hw : IntKind.i64.wrap ((k : Int) - 1) = (k : Int) - 1 := wrap64 (by omega) (by omega)
    have hbl1 := backT_len L (k + 1)
    have hb1 : ∀ (a : V) (x : AV), (x ∈ a.cs) = (x = .bool a.b ∨ x = .str a.s ∨ x = .int .i64 a.n) := fun a x => by simp [V.cs]
    generalize hv : L[k] = v at *
    have hlt : ((k : Int) < (L.length : Int)) := by omega
    rcases hB with ⟨h0, g4⟩ | ⟨hi0, rd, hrd, hrd2, g4, hr4⟩
    · skip
      repeat' (first
        | refine WP.t ?_ | refine WP.k ?_ | refine WP.e ?_ | refine Qn ?_ | refine Qr ?_ | refine Qe ?_ | refine Bn ?_ | refine Br ?_ | refine Be ?_ | refine Bx (by decide) ?_
        | (refine RS.nl ?_; refine hk _ _ ?_; clear hk k)
        | ((first | refine RS.st fun A B hA hB => ?_ | refine RQ.st fun A B hA hB => ?_); simp [g0, g3, g4, g5, hpl, ha3, hk2, hlt, pc, V.cs, hw, hge, hgt, onW_t, onW_f, onV_s]; first | ((first | refine hA _ _ _ ?_ ?_ | refine hA _ _ _ ?_ (by first | exact .inl rfl | exact .inr (by decide)) ?_); (focus (simp [g0, g3, g4, g5, hpl, ha3, hk2, hlt, pc, V.cs, hw, hge, hgt] <;> omega)); clear hA hB A B) | (refine hB ?_; clear hA hB A B) | (refine onV_if ?_ ?_; (focus (first | omega | (refine ⟨?_, ?_⟩ <;> omega))); simp only [onV_s]; (first | refine hA _ _ _ ?_ ?_ | refine hA _ _ _ ?_ (by first | exact .inl rfl | exact .inr (by decide)) ?_); (focus (simp [g0, g3, g4, g5, hpl, ha3, hk2, hlt, pc, V.cs, hw, hge, hgt] <;> omega)); clear hA hB A B))
        | (refine RQ.nl ?_; refine hk _ _ ?_; clear hk k)
        | refine WP.sr fun k hk => ?_ | refine WP.r fun k hk => ?_
        | refine WP.sd _ rfl fun k hk => ?_ | refine WP.d _ rfl fun k hk => ?_
        | (refine WP.cc fun A B hA hB => ?_; simp [g0, g3, g4, g5, hpl, ha3, hk2, hlt, pc, V.cs, hw, hge, hgt, onB_t, onB_f]; first | (refine hA ?_; clear hA hB A B) | (refine hB ?_; clear hA hB A B) | (refine onB_if (fun h => hA ?_) (fun h => hB ?_) <;> clear hA hB A B))
        | refine WP.q ?_ | refine WP.b ?_)
      have hnil : backT L (k + 1) = [] := List.eq_nil_of_length_eq_zero (by omega)
      have hbk : backT L k = [v, v] := by rw [hbs, hnil]; rfl
      refine ⟨k, by omega, by omega, by simp [g0], by simp [g3], by simp, by simp; omega, .inr ⟨by omega, s'.nx, by omega, by simp, by rw [hbk]; simp, by rw [hbk]; simp [pairs, pc, V.cs]⟩⟩
    · have n1 : ¬ rd = s'.nx := by omega
      have hln : (pairs (backT L (k + 1))).length = (backT L (k + 1)).length := by simp [pairs]
      have htl : List.take (backT L (k + 1)).length (pairs (backT L (k + 1))) = pairs (backT L (k + 1)) := List.take_of_length_le (by omega)
      have hby : ((backT L (k + 1)).length + 2) * 64 ≤ 140737488355328 := by omega
      have e2 : ∀ s2' : St, s2'.nx = s'.nx → ∀ o, (s2'.push o).get s'.nx = some o := fun s2' h o => by rw [← h]; exact St.get_push_same _ _
      repeat' (first
        | refine WP.t ?_ | refine WP.k ?_ | refine WP.e ?_ | refine Qn ?_ | refine Qr ?_ | refine Qe ?_ | refine Bn ?_ | refine Br ?_ | refine Be ?_ | refine Bx (by decide) ?_
        | (refine RS.nl ?_; refine hk _ _ ?_; clear hk k)
        | ((first | refine RS.st fun A B hA hB => ?_ | refine RQ.st fun A B hA hB => ?_); simp [g0, g3, g4, g5, hpl, ha3, hk2, hlt, pc, V.cs, hw, hge, hgt, hr4, n1, hln, htl, hby, hrd, hrd2, onW_t, onW_f, onV_s]; first | ((first | refine hA _ _ _ ?_ ?_ | refine hA _ _ _ ?_ (by first | exact .inl rfl | exact .inr (by decide)) ?_); (focus (simp [g0, g3, g4, g5, hpl, ha3, hk2, hlt, pc, V.cs, hw, hge, hgt, hr4, n1, hln, htl, hby, hrd, hrd2] <;> omega)); clear hA hB A B) | (refine hB ?_; clear hA hB A B) | (refine onV_if ?_ ?_; (focus (first | omega | (refine ⟨?_, ?_⟩ <;> omega))); simp only [onV_s]; (first | refine hA _ _ _ ?_ ?_ | refine hA _ _ _ ?_ (by first | exact .inl rfl | exact .inr (by decide)) ?_); (focus (simp [g0, g3, g4, g5, hpl, ha3, hk2, hlt, pc, V.cs, hw, hge, hgt, hr4, n1, hln, htl, hby, hrd, hrd2] <;> omega)); clear hA hB A B))
        | (refine RQ.nl ?_; refine hk _ _ ?_; clear hk k)
        | refine WP.sr fun k hk => ?_ | refine WP.r fun k hk => ?_
        | refine WP.sd _ rfl fun k hk => ?_ | refine WP.d _ rfl fun k hk => ?_
        | (refine WP.cc fun A B hA hB => ?_; simp [g0, g3, g4, g5, hpl, ha3, hk2, hlt, pc, V.cs, hw, hge, hgt, hr4, n1, hln, htl, hby, hrd, hrd2, onB_t, onB_f]; first | (refine hA ?_; clear hA hB A B) | (refine hB ?_; clear hA hB A B) | (refine onB_if (fun h => hA ?_) (fun h => hB ?_) <;> clear hA hB A B))
        | refine WP.q ?_ | refine WP.b ?_)
      refine ⟨k, by omega, by omega, by simp [g0], by simp [g3], by simp, by simp; omega, .inr ⟨by omega, s'.nx, by omega, by simp, by rw [hbs]; simp, ?_⟩⟩
      rw [hbs, e2 _ (by simp)]
      simp [pairs, pc, V.cs]
end
end Go.Am
