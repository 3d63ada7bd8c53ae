/- Part of the proof: abstract values over the given model of Go (T39, T40, T41, T42). Conditions: none of its own; see the statement in the seat's Rows text. -/
import Derived.Test.YtcahihhgikmloaaDoorAmSc
import Derived.Test.YtcahihhgikmloaaDoorAmFour
import Derived.Test.YtcahihhgikmloaaDoorAmSa
set_option linter.unusedSimpArgs false
set_option linter.unusedVariables false
set_option linter.unusedSectionVars false
namespace Go.Am
open Go.Proofs
def ddp : List V → Rows0 → Rows0
  | _, [] => []
  | p, x :: l => if cmpT x p = 0 then ddp x l else x :: ddp x l
/-- Each that is unlike the one ahead. -/
def compT : Rows0 → Rows0
  | [] => []
  | x :: l => x :: ddp x l
theorem ddp_length : ∀ (p : List V) (l : Rows0), (ddp p l).length ≤ l.length
  | _, [] => Nat.le_refl _
  | p, x :: l => by
    unfold ddp
    have := ddp_length x l
    split <;> simp <;> omega
theorem compT_length (l : Rows0) : (compT l).length ≤ l.length := by
  cases l with
  | nil => exact Nat.le_refl _
  | cons x l => have := ddp_length x l; simp [compT]; omega
def esC (D : Rows0) : List (List AV) := encD (compT D) ++ List.replicate (D.length - (compT D).length) [AV.nsl]
section
variable {K : Nat} {gw : World} {s : St}
attribute [local simp] awanted xop zOf zrow aop ev T0 Slots.put Slots.set Slots.get awr WOk AV.may ofConst abinop aint isConst St.get_push St.get_put St.live AV.fit AV.cells AV.one fieldOf afieldAddr aload ofCells astore splice May eqres env_ti FinP FinZ FinW ares aresL ares1 Fns.addP Fns.add Fns.a0 Fns.a1 Fns.a2 Fns.a3 Fns.a4 abuiltin alenOk alen aindex elemOfT elemId abuildSlice afill chunks ard aappend isSS AV.isStr aminmax placesOf abuild afield aidx isStrD isStrDesc astrop aslice asliceOk abound arange anext aextract aunop aeq AV.ck avseq aveq aconv aconvert onB_t onB_f List.range_succ ti0 ti1 ti2 ti3 ti4 ti5 ti6 ti7 ti8 ti9 ti10 ti11 ti12 ti13 ti14 ti15 ti16 ti17 ti18 ti19 ti20 ti21 ti22 ti23 ti24 ti25 ti26 ti27 ti28 ti29 ti30 ti31 ti32 ti33 ti34 ti35 ti36 ti37 ti38 ti39 ti40 ti41 ti42 ti43 ti44 ti45 ti46 ti47 ti48 ti49 ti50 ti51 ti52 ti53 ti54 ti55 ti56 ti57 ti58 ti59 ti60 ti61 ti62 ti63 ti64 ti65 ti66 ti67 ti68 ti69 ti70 ti71 ti72 ti73 ti74 ti75 ti76 ti77 ti78 ti79 ti80 ti81 ti82 ti83 ti84 ti85 ti86 ti87 ti88 ti89 ti90 ti91 ti92 ti93 ti94 ti95 ti96 ti97 ti98 ti99 ti100 ti101 ti102 ti103 ti104 ti105 ti106 ti107 ti108 ti109 ti110 ti111 ti112 ti113 ti114 ti115 ti116 ti117 ti118 ti119 ti120 ti121 ti122 ti123 ti124 ti125 ti126 ti127 ti128 ti129 ti130 ti131 ti132 ti133 ti134 ti135 ti136 ti137 ti138 ti139 ti140 ti141 ti142 ti143 ti144 ti145 ti146 ti147
theorem esC_of {D : Rows0} (h : compT D = D) : esC D = encD D := by unfold esC; rw [h]; simp
theorem below_esC (n : Nat) (D : Rows0) : OBelow n (.row 1 (true, 33) (esC D)) := by
  rw [obelow_row]
  intro e he x hx
  unfold esC at he
  rcases List.mem_append.1 he with he | he
  · have := belowO n (compT D)
    rw [obelow_row] at this
    exact this e he x hx
  · rw [List.eq_of_mem_replicate he] at hx
    simp at hx
    subst hx
    exact .nsl
theorem finRow2 {E : Env} {rs : Array ResultVar} {id : Nat} {es : List (List AV)} {r : AV} {T : Slots} {e : Exit} (he : e = .normal ∨ e = .ret) (hid : id < s.nx) (hr : ares E T (s.put id (.row 1 (true, 33) es)) rs = some r) (hb : Below s.nx r)
    (ho : OBelow s.nx (.row 1 (true, 33) es)) :
    FinW E rs (fun i => i ∈ [id]) s r (s.put id (.row 1 (true, 33) es)) e T (s.put id (.row 1 (true, 33) es)) := by
  refine ⟨he, hr, hb, Nat.le_refl _, Nat.le_refl _, fun hsame => ⟨fun j hj => rfl, fun j hj hm o ho' => ?_⟩⟩
  rcases hm with hm | hm
  · simp at hm
    subst hm
    rw [St.get_put_same] at ho'
    cases ho'
    exact ho
  · have : j < s.nx := hj
    omega
set_option maxRecDepth 20000 in
set_option maxHeartbeats 16000000 in
theorem ft36a (hK : 0 < K) (hT : Tens gw) {id : Nat} (D : Rows0) (hid : id < s.nx) (hs : s.get id = some (rowO D)) (hl : D.length < 268435456) (hok : okD D) :
    FT (env K gw) (fun i => i ∈ [id]) 61 [.ls id 0 D.length, .fn (.func 62) [] []] s (.ls id 0 (compT D).length) (s.put id (.row 1 (true, 33) (esC D))) := by
  refine FT.own (fn := Tryd.f61) (U4_ok hK hT) mixed Tryd.func61 (by kernel_rfl) (by rfl) rfl rfl (by simp) (by kernel_rfl) fun μ w => ?_
  have heq : ∀ (x y : List V) (s : St), x.length < LIM → y.length < LIM → U4 62 [.sl (x.map V.cs), .sl (y.map V.cs)] s = some (.bool (decide (cmpT x y = 0)), s, []) := fun x y s hx hy => by
    simp [U4, Fns.addP, pAlk, hx, hy]
  by_cases h2 : D.length < 2
  · have h2i : (D.length : Int) < 2 := by omega
    have hc : compT D = D := by
      match D, h2 with
      | [], _ => rfl
      | [x], _ => rfl
      | _ :: _ :: _, h => simp at h; omega
    have hes := esC_of hc
    rw [hes, hc, St.put_self hs]
    repeat' (first
      | refine WP.t ?_ | refine WP.k ?_ | refine WP.e ?_ | refine Qn ?_ | refine Qr ?_ | refine Qe ?_ | refine Bn ?_ | refine Br ?_ | refine Be ?_ | refine Bx (by decide) ?_
      | (refine RS.nl ?_; refine hk _ _ ?_; clear hk k)
      | ((first | refine RS.st fun A B hA hB => ?_ | refine RQ.st fun A B hA hB => ?_); simp [abuiltin, alenOk, alen, ti36, hid, hs, hl, h2i, onW_t, onW_f, onV_s]; first | ((first | refine hA _ _ _ ?_ ?_ | refine hA _ _ _ ?_ (by first | exact .inl rfl | exact .inr (by decide)) ?_); (focus (simp [abuiltin, alenOk, alen, ti36, hid, hs, hl, h2i] <;> omega)); clear hA hB A B) | (refine hB ?_; clear hA hB A B) | (refine onV_if ?_ ?_; (focus (first | omega | (refine ⟨?_, ?_⟩ <;> omega))); simp only [onV_s]; (first | refine hA _ _ _ ?_ ?_ | refine hA _ _ _ ?_ (by first | exact .inl rfl | exact .inr (by decide)) ?_); (focus (simp [abuiltin, alenOk, alen, ti36, hid, hs, hl, h2i] <;> omega)); clear hA hB A B))
      | (refine RQ.nl ?_; refine hk _ _ ?_; clear hk k)
      | refine WP.sr fun k hk => ?_ | refine WP.r fun k hk => ?_
      | refine WP.sd _ rfl fun k hk => ?_ | refine WP.d _ rfl fun k hk => ?_
      | (refine WP.cc fun A B hA hB => ?_; simp [abuiltin, alenOk, alen, ti36, hid, hs, hl, h2i, onB_t, onB_f]; first | (refine hA ?_; clear hA hB A B) | (refine hB ?_; clear hA hB A B) | (refine onB_if (fun h => hA ?_) (fun h => hB ?_) <;> clear hA hB A B))
      | refine WP.q ?_ | refine WP.b ?_)
    have := finRow2 (s := s) (E := env K gw) (rs := Tryd.f61.results) (id := id) (es := encD D) (r := .ls id 0 D.length) (e := .ret) (.inr rfl) hid (T := [(4, .ls id 0 D.length)]) rfl (by simp [hid]) (belowO _ _)
    rw [St.put_self hs] at this
    exact this
  · have h2i : ¬ (D.length : Int) < 2 := by omega
    have hc1 : compT D = D.take 1 ++ ddp (gD D (1 - 1)) (D.drop 1) := by
      match D, h2 with
      | [], h => simp at h
      | x :: l, _ => rfl
    repeat' (first
      | refine WP.t ?_ | refine WP.k ?_ | refine WP.e ?_ | refine Qn ?_ | refine Qr ?_ | refine Qe ?_ | refine Bn ?_ | refine Br ?_ | refine Be ?_ | refine Bx (by decide) ?_
      | (refine RS.nl ?_; refine hk _ _ ?_; clear hk k)
      | ((first | refine RS.st fun A B hA hB => ?_ | refine RQ.st fun A B hA hB => ?_); simp [abuiltin, alenOk, alen, ti36, hid, hs, hl, h2i, onW_t, onW_f, onV_s]; first | ((first | refine hA _ _ _ ?_ ?_ | refine hA _ _ _ ?_ (by first | exact .inl rfl | exact .inr (by decide)) ?_); (focus (simp [abuiltin, alenOk, alen, ti36, hid, hs, hl, h2i] <;> omega)); clear hA hB A B) | (refine hB ?_; clear hA hB A B) | (refine onV_if ?_ ?_; (focus (first | omega | (refine ⟨?_, ?_⟩ <;> omega))); simp only [onV_s]; (first | refine hA _ _ _ ?_ ?_ | refine hA _ _ _ ?_ (by first | exact .inl rfl | exact .inr (by decide)) ?_); (focus (simp [abuiltin, alenOk, alen, ti36, hid, hs, hl, h2i] <;> omega)); clear hA hB A B))
      | (refine RQ.nl ?_; refine hk _ _ ?_; clear hk k)
      | refine WP.sr fun k hk => ?_ | refine WP.r fun k hk => ?_
      | refine WP.sd _ rfl fun k hk => ?_ | refine WP.d _ rfl fun k hk => ?_
      | (refine WP.cc fun A B hA hB => ?_; simp [abuiltin, alenOk, alen, ti36, hid, hs, hl, h2i, onB_t, onB_f]; first | (refine hA ?_; clear hA hB A B) | (refine hB ?_; clear hA hB A B) | (refine onB_if (fun h => hA ?_) (fun h => hB ?_) <;> clear hA hB A B))
      | refine WP.q ?_ | refine WP.b ?_)
    refine WP_loop (fun q T s' => ∃ (a : Nat), q = D.length - a ∧ 1 ≤ a ∧ a ≤ D.length ∧ s' = s ∧ compT D = D.take a ++ ddp (gD D (a - 1)) (D.drop a) ∧ T.get 0 = .ls id 0 D.length ∧ T.get 1 = .fn (.func 62) [] [] ∧ T.get 5 = .int .i64 a)
      (D.length - 1) ⟨1, rfl, Nat.le_refl _, by omega, rfl, hc1, by simp, by simp, by simp⟩ ?_
    rintro q T s' ⟨a, hq, ha1, han, rfl, hca, g0, g1, g5⟩
    by_cases hlt : a < D.length
    · obtain ⟨c, rfl⟩ : ∃ c, a = c + 1 := ⟨a - 1, by omega⟩
      have hlti : (c : Int) + 1 < (D.length : Int) := by omega
      have i1 : c + 1 < D.length := hlt
      have i2 : c < D.length := by omega
      have w4 : IntKind.i64.wrap ((c : Int) + 1 - 1) = (c : Int) := by rw [Int.add_sub_cancel]; exact wrap64 (by omega) (by omega)
      have w4' : IntKind.i64.wrap (c : Int) = (c : Int) := wrap64 (by omega) (by omega)
      have w5 : IntKind.i64.wrap ((c : Int) + 1 + 1) = (c : Int) + 1 + 1 := wrap64 (by omega) (by omega)
      have p1 : 0 ≤ (c : Int) + 1 := by omega
      have p3 : ((c : Int) + 1).toNat = c + 1 := by omega
      have p5 : (c : Int) < (D.length : Int) := by omega
      have hx := encD_get i1
      have hy := encD_get i2
      have ox := hok _ (List.getElem_mem i1)
      have oy := hok _ (List.getElem_mem i2)
      have e1 := gD_of i1
      have e2 := gD_of i2
      have hdr : D.drop (c + 1) = D[c + 1] :: D.drop (c + 2) := List.drop_eq_getElem_cons i1
      have htk : D.take (c + 2) = D.take (c + 1) ++ [D[c + 1]] := by rw [List.take_add_one, List.getElem?_eq_getElem i1]; rfl
      have hc2 : c + 1 - 1 = c := by omega
      rw [hdr, hc2, e2] at hca
      generalize hxx : D[c + 1] = x at *
      generalize D[c] = y at *
      have rwx : Rw x = [.sl (x.map V.cs)] := rfl
      have rwy : Rw y = [.sl (y.map V.cs)] := rfl
      have hxy := heq x y
      by_cases hc : cmpT x y = 0
      · have hcb : compT D = D.take (c + 1) ++ ddp (gD D (c + 1 + 1 - 1)) (D.drop (c + 1 + 1)) := by
          rw [hca, ddp, if_pos hc]
          have : c + 1 + 1 - 1 = c + 1 := by omega
          rw [this, e1]
        have n1 : (c : Int) + 1 ≤ (D.length : Int) := by omega
        repeat' (first
          | refine WP.t ?_ | refine WP.k ?_ | refine WP.e ?_ | refine Qn ?_ | refine Qr ?_ | refine Qe ?_ | refine Bn ?_ | refine Br ?_ | refine Be ?_ | refine Bx (by decide) ?_
          | (refine RS.nl ?_; refine hk _ _ ?_; clear hk k)
          | ((first | refine RS.st fun A B hA hB => ?_ | refine RQ.st fun A B hA hB => ?_); simp [hxy, g0, g1, g5, abuiltin, alenOk, alen, hlti, w4, w4', w5, p1, p3, p5, hx, hy, ox, oy, hc, ti36, ti33, elemOfT, aindex, hs, asliceOk, aslice, abound, n1, rwx, rwy, hid, onW_t, onW_f, onV_s]; first | ((first | refine hA _ _ _ ?_ ?_ | refine hA _ _ _ ?_ (by first | exact .inl rfl | exact .inr (by decide)) ?_); (focus (simp [hxy, g0, g1, g5, abuiltin, alenOk, alen, hlti, w4, w4', w5, p1, p3, p5, hx, hy, ox, oy, hc, ti36, ti33, elemOfT, aindex, hs, asliceOk, aslice, abound, n1, rwx, rwy, hid] <;> omega)); clear hA hB A B) | (refine hB ?_; clear hA hB A B) | (refine onV_if ?_ ?_; (focus (first | omega | (refine ⟨?_, ?_⟩ <;> omega))); simp only [onV_s]; (first | refine hA _ _ _ ?_ ?_ | refine hA _ _ _ ?_ (by first | exact .inl rfl | exact .inr (by decide)) ?_); (focus (simp [hxy, g0, g1, g5, abuiltin, alenOk, alen, hlti, w4, w4', w5, p1, p3, p5, hx, hy, ox, oy, hc, ti36, ti33, elemOfT, aindex, hs, asliceOk, aslice, abound, n1, rwx, rwy, hid] <;> omega)); clear hA hB A B))
          | (refine RQ.nl ?_; refine hk _ _ ?_; clear hk k)
          | refine WP.sr fun k hk => ?_ | refine WP.r fun k hk => ?_
          | refine WP.sd _ rfl fun k hk => ?_ | refine WP.d _ rfl fun k hk => ?_
          | (refine WP.cc fun A B hA hB => ?_; simp [hxy, g0, g1, g5, abuiltin, alenOk, alen, hlti, w4, w4', w5, p1, p3, p5, hx, hy, ox, oy, hc, ti36, ti33, elemOfT, aindex, hs, asliceOk, aslice, abound, n1, rwx, rwy, hid, onB_t, onB_f]; first | (refine hA ?_; clear hA hB A B) | (refine hB ?_; clear hA hB A B) | (refine onB_if (fun h => hA ?_) (fun h => hB ?_) <;> clear hA hB A B))
          | refine WP.q ?_ | refine WP.b ?_)
        have hcn : (D.length : Int).toNat - (c + 1) = D.length - (c + 1) := by omega
        refine WP_loop (fun q T s2 => ∃ (i r : Nat) (D1 : Rows0), q = D.length - (c + 1 + (r + 1)) ∧ s2 = s'.put id (rowO D1) ∧ D1.length = D.length ∧ okD D1 ∧ c + 1 ≤ i ∧ i ≤ c + 1 + r ∧ c + 1 + (r + 1) ≤ D.length ∧ (∀ j, c + 1 + r ≤ j → D1[j]? = D[j]?) ∧
            compT D = D1.take i ++ ddp (gD D (c + 1 + r)) (D.drop (c + 1 + (r + 1))) ∧ T.get 0 = .ls id 0 D.length ∧ T.get 1 = .fn (.func 62) [] [] ∧ T.get 5 = .int .i64 i ∧ T.get 6 = .ls id (c + 1) (D.length - (c + 1)) ∧ T.get 7 = .int .i64 ((r + 1 : Nat) : Int))
          (D.length - (c + 1 + 1)) ⟨c + 1, 0, D, rfl, (St.put_self hs).symm, rfl, hok, by omega, by omega, by omega, fun _ _ => rfl, hcb, by simp [g0], by simp [g1], by simp [g5], by simp, by simp⟩ ?_
        rintro q2 T2 s2 ⟨i, r, D1, hq2, rfl, hD1, hok1, hci, hir, hrn, hsame, hcc, k0, k1, k5, k6, k7⟩
        by_cases hlt2 : c + 1 + (r + 1) < D.length
        · have hlt2i : (r : Int) + 1 < ((D.length - (c + 1) : Nat) : Int) := by omega
          have i3 : c + 1 + (r + 1) < D1.length := by omega
          have i4 : c + 1 + r < D1.length := by omega
          have v4 : IntKind.i64.wrap ((r : Int) + 1 - 1) = (r : Int) := by rw [Int.add_sub_cancel]; exact wrap64 (by omega) (by omega)
          have v4' : IntKind.i64.wrap (r : Int) = (r : Int) := wrap64 (by omega) (by omega)
          have v5 : IntKind.i64.wrap ((r : Int) + 1 + 1) = (r : Int) + 1 + 1 := wrap64 (by omega) (by omega)
          have v6 : IntKind.i64.wrap ((i : Int) + 1) = (i : Int) + 1 := wrap64 (by omega) (by omega)
          have q1 : 0 ≤ (r : Int) + 1 := by omega
          have q2' : ((r : Int) + 1).toNat = r + 1 := by omega
          have q3 : (r : Int) < ((D.length - (c + 1) : Nat) : Int) := by omega
          have q4 : (i : Int) < (D.length : Int) := by omega
          have q5 : (0 : Int) ≤ (i : Int) := by omega
          have q6 : (0 : Int) ≤ (r : Int) := by omega
          have s1 := hsame (c + 1 + (r + 1)) (by omega)
          have s2 := hsame (c + 1 + r) (Nat.le_refl _)
          have hx := encD_get i3
          have hy := encD_get i4
          have ox := hok1 _ (List.getElem_mem i3)
          have oy := hok1 _ (List.getElem_mem i4)
          have d1 : gD D (c + 1 + (r + 1)) = D1[c + 1 + (r + 1)] := by unfold gD; rw [← s1, List.getElem?_eq_getElem i3]; rfl
          have d2 : gD D (c + 1 + r) = D1[c + 1 + r] := by unfold gD; rw [← s2, List.getElem?_eq_getElem i4]; rfl
          have hdr2 : D.drop (c + 1 + (r + 1)) = D1[c + 1 + (r + 1)] :: D.drop (c + 1 + (r + 1 + 1)) := by
            rw [List.drop_eq_getElem_cons hlt2]
            congr 1
            rw [List.getElem?_eq_getElem i3, List.getElem?_eq_getElem hlt2] at s1
            exact (Option.some.inj s1).symm
          rw [hdr2, d2] at hcc
          generalize D1[c + 1 + (r + 1)] = x2 at *
          generalize D1[c + 1 + r] = y2 at *
          have rwx : Rw x2 = [.sl (x2.map V.cs)] := rfl
          have rwy : Rw y2 = [.sl (y2.map V.cs)] := rfl
          have heqq := heq x2 y2
          by_cases hc2 : cmpT x2 y2 = 0
          · rw [ddp, if_pos hc2, ← d1] at hcc
            repeat' (first
              | refine WP.t ?_ | refine WP.k ?_ | refine WP.e ?_ | refine Qn ?_ | refine Qr ?_ | refine Qe ?_ | refine Bn ?_ | refine Br ?_ | refine Be ?_ | refine Bx (by decide) ?_
              | (refine RS.nl ?_; refine hk _ _ ?_; clear hk k)
              | ((first | refine RS.st fun A B hA hB => ?_ | refine RQ.st fun A B hA hB => ?_); simp [heqq, k0, k1, k5, k6, k7, abuiltin, alenOk, alen, hlt2i, v4, v4', v5, v6, q1, q2', q3, q4, q5, q6, hx, hy, ox, oy, hc2, ti36, ti33, elemOfT, aindex, St.get_put_same, asliceOk, aslice, abound, rwx, rwy, hid, onW_t, onW_f, onV_s]; first | ((first | refine hA _ _ _ ?_ ?_ | refine hA _ _ _ ?_ (by first | exact .inl rfl | exact .inr (by decide)) ?_); (focus (simp [heqq, k0, k1, k5, k6, k7, abuiltin, alenOk, alen, hlt2i, v4, v4', v5, v6, q1, q2', q3, q4, q5, q6, hx, hy, ox, oy, hc2, ti36, ti33, elemOfT, aindex, St.get_put_same, asliceOk, aslice, abound, rwx, rwy, hid] <;> omega)); clear hA hB A B) | (refine hB ?_; clear hA hB A B) | (refine onV_if ?_ ?_; (focus (first | omega | (refine ⟨?_, ?_⟩ <;> omega))); simp only [onV_s]; (first | refine hA _ _ _ ?_ ?_ | refine hA _ _ _ ?_ (by first | exact .inl rfl | exact .inr (by decide)) ?_); (focus (simp [heqq, k0, k1, k5, k6, k7, abuiltin, alenOk, alen, hlt2i, v4, v4', v5, v6, q1, q2', q3, q4, q5, q6, hx, hy, ox, oy, hc2, ti36, ti33, elemOfT, aindex, St.get_put_same, asliceOk, aslice, abound, rwx, rwy, hid] <;> omega)); clear hA hB A B))
              | (refine RQ.nl ?_; refine hk _ _ ?_; clear hk k)
              | refine WP.sr fun k hk => ?_ | refine WP.r fun k hk => ?_
              | refine WP.sd _ rfl fun k hk => ?_ | refine WP.d _ rfl fun k hk => ?_
              | (refine WP.cc fun A B hA hB => ?_; simp [heqq, k0, k1, k5, k6, k7, abuiltin, alenOk, alen, hlt2i, v4, v4', v5, v6, q1, q2', q3, q4, q5, q6, hx, hy, ox, oy, hc2, ti36, ti33, elemOfT, aindex, St.get_put_same, asliceOk, aslice, abound, rwx, rwy, hid, onB_t, onB_f]; first | (refine hA ?_; clear hA hB A B) | (refine hB ?_; clear hA hB A B) | (refine onB_if (fun h => hA ?_) (fun h => hB ?_) <;> clear hA hB A B))
              | refine WP.q ?_ | refine WP.b ?_)
            refine ⟨D.length - (c + 1 + (r + 1 + 1)), by omega, i, r + 1, D1, rfl, rfl, hD1, hok1, hci, by omega, by omega, fun j hj => hsame j (by omega), hcc, by simp [k0], by simp [k1], by simp [k5], by simp [k6], by simp [v5]⟩
          · rw [ddp, if_neg hc2, ← d1] at hcc
            have i5 : i < D1.length := by omega
            have hz := encD_get i5
            generalize D1[i] = z at *
            have rwz : Rw z = [.sl (z.map V.cs)] := rfl
            repeat' (first
              | refine WP.t ?_ | refine WP.k ?_ | refine WP.e ?_ | refine Qn ?_ | refine Qr ?_ | refine Qe ?_ | refine Bn ?_ | refine Br ?_ | refine Be ?_ | refine Bx (by decide) ?_
              | (refine RS.nl ?_; refine hk _ _ ?_; clear hk k)
              | ((first | refine RS.st fun A B hA hB => ?_ | refine RQ.st fun A B hA hB => ?_); simp [hz, rwz, heqq, k0, k1, k5, k6, k7, abuiltin, alenOk, alen, hlt2i, v4, v4', v5, v6, q1, q2', q3, q4, q5, q6, hx, hy, ox, oy, hc2, ti36, ti33, elemOfT, aindex, St.get_put_same, asliceOk, aslice, abound, rwx, rwy, hid, onW_t, onW_f, onV_s]; first | ((first | refine hA _ _ _ ?_ ?_ | refine hA _ _ _ ?_ (by first | exact .inl rfl | exact .inr (by decide)) ?_); (focus (simp [hz, rwz, heqq, k0, k1, k5, k6, k7, abuiltin, alenOk, alen, hlt2i, v4, v4', v5, v6, q1, q2', q3, q4, q5, q6, hx, hy, ox, oy, hc2, ti36, ti33, elemOfT, aindex, St.get_put_same, asliceOk, aslice, abound, rwx, rwy, hid] <;> omega)); clear hA hB A B) | (refine hB ?_; clear hA hB A B) | (refine onV_if ?_ ?_; (focus (first | omega | (refine ⟨?_, ?_⟩ <;> omega))); simp only [onV_s]; (first | refine hA _ _ _ ?_ ?_ | refine hA _ _ _ ?_ (by first | exact .inl rfl | exact .inr (by decide)) ?_); (focus (simp [hz, rwz, heqq, k0, k1, k5, k6, k7, abuiltin, alenOk, alen, hlt2i, v4, v4', v5, v6, q1, q2', q3, q4, q5, q6, hx, hy, ox, oy, hc2, ti36, ti33, elemOfT, aindex, St.get_put_same, asliceOk, aslice, abound, rwx, rwy, hid] <;> omega)); clear hA hB A B))
              | (refine RQ.nl ?_; refine hk _ _ ?_; clear hk k)
              | refine WP.sr fun k hk => ?_ | refine WP.r fun k hk => ?_
              | refine WP.sd _ rfl fun k hk => ?_ | refine WP.d _ rfl fun k hk => ?_
              | (refine WP.cc fun A B hA hB => ?_; simp [hz, rwz, heqq, k0, k1, k5, k6, k7, abuiltin, alenOk, alen, hlt2i, v4, v4', v5, v6, q1, q2', q3, q4, q5, q6, hx, hy, ox, oy, hc2, ti36, ti33, elemOfT, aindex, St.get_put_same, asliceOk, aslice, abound, rwx, rwy, hid, onB_t, onB_f]; first | (refine hA ?_; clear hA hB A B) | (refine hB ?_; clear hA hB A B) | (refine onB_if (fun h => hA ?_) (fun h => hB ?_) <;> clear hA hB A B))
              | refine WP.q ?_ | refine WP.b ?_)
            refine ⟨D.length - (c + 1 + (r + 1 + 1)), by omega, i + 1, r + 1, D1.set i x2, rfl, ?_, by simp [hD1], ?_, by omega, by omega, by omega, fun j hj => ?_, ?_, by simp [k0], by simp [k1], by simp [v6], by simp [k6], by simp [v5]⟩
            · rw [St.put_put]
              simp only [← rwx, encD_set]
            · intro t ht
              rcases List.mem_or_eq_of_mem_set ht with ht | rfl
              · exact hok1 t ht
              · exact ox
            · rw [List.getElem?_set_ne (by omega)]
              exact hsame j (by omega)
            · have : (D1.set i x2).take (i + 1) = D1.take i ++ [x2] := by
                rw [List.take_add_one, List.getElem?_set_self (by omega)]
                simp [List.take_set_of_le]
              rw [this, hcc, ← d1]
              simp
        · have hlt2i : ¬ (r : Int) + 1 < ((D.length - (c + 1) : Nat) : Int) := by omega
          have hre : c + 1 + (r + 1) = D.length := by omega
          rw [hre, List.drop_length] at hcc
          have hcc : compT D = D1.take i := by rw [hcc]; simp [ddp]
          have hcl : (compT D).length = i := by rw [hcc]; simp; omega
          have q4 : (i : Int) ≤ (D.length : Int) := by omega
          have q5 : (0 : Int) ≤ (i : Int) := by omega
          have q7 : i + (D.length - i) ≤ D1.length := by omega
          have q8 : i + (D.length - i) ≤ D.length := by omega
          have hes : splice (encD D1) i (List.replicate (D.length - i) [AV.nsl]) = esC D := by
            unfold splice esC
            rw [hcl, hcc]
            have : D1.length - (i + (D.length - i)) = 0 := by omega
            simp [encD, List.map_take, List.drop_eq_nil_iff]
            omega
          repeat' (first
            | refine WP.t ?_ | refine WP.k ?_ | refine WP.e ?_ | refine Qn ?_ | refine Qr ?_ | refine Qe ?_ | refine Bn ?_ | refine Br ?_ | refine Be ?_ | refine Bx (by decide) ?_
            | (refine RS.nl ?_; refine hk _ _ ?_; clear hk k)
            | ((first | refine RS.st fun A B hA hB => ?_ | refine RQ.st fun A B hA hB => ?_); simp [k0, k1, k5, k6, k7, abuiltin, alenOk, alen, hlt2i, q4, q5, q7, q8, ti36, ti33, elemOfT, St.get_put_same, asliceOk, aslice, abound, hid, aclear, AV.one, hD1, hes, onW_t, onW_f, onV_s]; first | ((first | refine hA _ _ _ ?_ ?_ | refine hA _ _ _ ?_ (by first | exact .inl rfl | exact .inr (by decide)) ?_); (focus (simp [k0, k1, k5, k6, k7, abuiltin, alenOk, alen, hlt2i, q4, q5, q7, q8, ti36, ti33, elemOfT, St.get_put_same, asliceOk, aslice, abound, hid, aclear, AV.one, hD1, hes] <;> omega)); clear hA hB A B) | (refine hB ?_; clear hA hB A B) | (refine onV_if ?_ ?_; (focus (first | omega | (refine ⟨?_, ?_⟩ <;> omega))); simp only [onV_s]; (first | refine hA _ _ _ ?_ ?_ | refine hA _ _ _ ?_ (by first | exact .inl rfl | exact .inr (by decide)) ?_); (focus (simp [k0, k1, k5, k6, k7, abuiltin, alenOk, alen, hlt2i, q4, q5, q7, q8, ti36, ti33, elemOfT, St.get_put_same, asliceOk, aslice, abound, hid, aclear, AV.one, hD1, hes] <;> omega)); clear hA hB A B))
            | (refine RQ.nl ?_; refine hk _ _ ?_; clear hk k)
            | refine WP.sr fun k hk => ?_ | refine WP.r fun k hk => ?_
            | refine WP.sd _ rfl fun k hk => ?_ | refine WP.d _ rfl fun k hk => ?_
            | (refine WP.cc fun A B hA hB => ?_; simp [k0, k1, k5, k6, k7, abuiltin, alenOk, alen, hlt2i, q4, q5, q7, q8, ti36, ti33, elemOfT, St.get_put_same, asliceOk, aslice, abound, hid, aclear, AV.one, hD1, hes, onB_t, onB_f]; first | (refine hA ?_; clear hA hB A B) | (refine hB ?_; clear hA hB A B) | (refine onB_if (fun h => hA ?_) (fun h => hB ?_) <;> clear hA hB A B))
            | refine WP.q ?_ | refine WP.b ?_)
          unfold splice at hes
          rw [List.append_assoc, List.length_replicate] at hes
          rw [St.put_put, hcl, hes]
          refine finRow2 (.inr rfl) hid ?_ ?_ (below_esC _ _)
          · rfl
          · simp [hid]
      · rw [ddp, if_neg hc] at hca
        repeat' (first
          | refine WP.t ?_ | refine WP.k ?_ | refine WP.e ?_ | refine Qn ?_ | refine Qr ?_ | refine Qe ?_ | refine Bn ?_ | refine Br ?_ | refine Be ?_ | refine Bx (by decide) ?_
          | (refine RS.nl ?_; refine hk _ _ ?_; clear hk k)
          | ((first | refine RS.st fun A B hA hB => ?_ | refine RQ.st fun A B hA hB => ?_); simp [hxy, g0, g1, g5, abuiltin, alenOk, alen, hlti, w4, w4', w5, p1, p3, p5, hx, hy, ox, oy, hc, ti36, ti33, elemOfT, aindex, hs, rwx, rwy, hid, onW_t, onW_f, onV_s]; first | ((first | refine hA _ _ _ ?_ ?_ | refine hA _ _ _ ?_ (by first | exact .inl rfl | exact .inr (by decide)) ?_); (focus (simp [hxy, g0, g1, g5, abuiltin, alenOk, alen, hlti, w4, w4', w5, p1, p3, p5, hx, hy, ox, oy, hc, ti36, ti33, elemOfT, aindex, hs, rwx, rwy, hid] <;> omega)); clear hA hB A B) | (refine hB ?_; clear hA hB A B) | (refine onV_if ?_ ?_; (focus (first | omega | (refine ⟨?_, ?_⟩ <;> omega))); simp only [onV_s]; (first | refine hA _ _ _ ?_ ?_ | refine hA _ _ _ ?_ (by first | exact .inl rfl | exact .inr (by decide)) ?_); (focus (simp [hxy, g0, g1, g5, abuiltin, alenOk, alen, hlti, w4, w4', w5, p1, p3, p5, hx, hy, ox, oy, hc, ti36, ti33, elemOfT, aindex, hs, rwx, rwy, hid] <;> omega)); clear hA hB A B))
          | (refine RQ.nl ?_; refine hk _ _ ?_; clear hk k)
          | refine WP.sr fun k hk => ?_ | refine WP.r fun k hk => ?_
          | refine WP.sd _ rfl fun k hk => ?_ | refine WP.d _ rfl fun k hk => ?_
          | (refine WP.cc fun A B hA hB => ?_; simp [hxy, g0, g1, g5, abuiltin, alenOk, alen, hlti, w4, w4', w5, p1, p3, p5, hx, hy, ox, oy, hc, ti36, ti33, elemOfT, aindex, hs, rwx, rwy, hid, onB_t, onB_f]; first | (refine hA ?_; clear hA hB A B) | (refine hB ?_; clear hA hB A B) | (refine onB_if (fun h => hA ?_) (fun h => hB ?_) <;> clear hA hB A B))
          | refine WP.q ?_ | refine WP.b ?_)
        refine ⟨D.length - (c + 1 + 1), by omega, c + 1 + 1, rfl, by omega, by omega, rfl, ?_, by simp [g0], by simp [g1], by simp [w5]⟩
        have : c + 1 + 1 - 1 = c + 1 := by omega
        rw [this, e1, hca, htk]
        simp
    · have hlti : ¬ (a : Int) < (D.length : Int) := by omega
      obtain rfl : a = D.length := by omega
      have hcd : compT D = D := by rw [hca]; simp [ddp]
      have hes := esC_of hcd
      rw [hes, hcd, St.put_self hs]
      repeat' (first
        | refine WP.t ?_ | refine WP.k ?_ | refine WP.e ?_ | refine Qn ?_ | refine Qr ?_ | refine Qe ?_ | refine Bn ?_ | refine Br ?_ | refine Be ?_ | refine Bx (by decide) ?_
        | (refine RS.nl ?_; refine hk _ _ ?_; clear hk k)
        | ((first | refine RS.st fun A B hA hB => ?_ | refine RQ.st fun A B hA hB => ?_); simp [g0, g1, g5, abuiltin, alenOk, alen, hlti, ti36, hs, hid, onW_t, onW_f, onV_s]; first | ((first | refine hA _ _ _ ?_ ?_ | refine hA _ _ _ ?_ (by first | exact .inl rfl | exact .inr (by decide)) ?_); (focus (simp [g0, g1, g5, abuiltin, alenOk, alen, hlti, ti36, hs, hid] <;> omega)); clear hA hB A B) | (refine hB ?_; clear hA hB A B) | (refine onV_if ?_ ?_; (focus (first | omega | (refine ⟨?_, ?_⟩ <;> omega))); simp only [onV_s]; (first | refine hA _ _ _ ?_ ?_ | refine hA _ _ _ ?_ (by first | exact .inl rfl | exact .inr (by decide)) ?_); (focus (simp [g0, g1, g5, abuiltin, alenOk, alen, hlti, ti36, hs, hid] <;> omega)); clear hA hB A B))
        | (refine RQ.nl ?_; refine hk _ _ ?_; clear hk k)
        | refine WP.sr fun k hk => ?_ | refine WP.r fun k hk => ?_
        | refine WP.sd _ rfl fun k hk => ?_ | refine WP.d _ rfl fun k hk => ?_
        | (refine WP.cc fun A B hA hB => ?_; simp [g0, g1, g5, abuiltin, alenOk, alen, hlti, ti36, hs, hid, onB_t, onB_f]; first | (refine hA ?_; clear hA hB A B) | (refine hB ?_; clear hA hB A B) | (refine onB_if (fun h => hA ?_) (fun h => hB ?_) <;> clear hA hB A B))
        | refine WP.q ?_ | refine WP.b ?_)
      have := finRow2 (s := s') (E := env K gw) (rs := Tryd.f61.results) (id := id) (es := encD D) (r := .ls id 0 D.length) (e := .ret) (.inr rfl) hid (T := [(4, .ls id 0 D.length)]) rfl (by simp [hid]) (belowO _ _)
      rw [St.put_self hs] at this
      exact this
theorem ft36 (hK : 0 < K) (hT : Tens gw) {id : Nat} (D : Rows0) (hid : id < s.nx) (hs : s.get id = some (rowO D)) (hl : D.length < 268435456) (hok : okD D) :
    FT (env K gw) (fun i => i ∈ [id]) 61 [.ls id 0 D.length, .fn (.func 62) [] []] s (.ls id 0 (compT D).length) (s.put id (rowO (compT D))) := by
  have h := FT.trunc (compT D).length (St.get_put_same _ _ _) (by simp) (ft36a hK hT D hid hs hl hok)
  rw [St.put_put] at h
  have : (esC D).take (compT D).length = encD (compT D) := by unfold esC; rw [List.take_append_of_le_length (by simp), List.take_of_length_le (by simp)]
  rw [this] at h
  exact h
/-- Of CompactFunc. -/
def gCmp (xs : List AV) (s : St) : Option (AV × St × List Nat) :=
  match xs with
  | [.ls id 0 n, .fn (.func 62) [] []] => if id < s.nx then (match s.get id with
    | some (.row 1 (true, 33) es) => match decD es with
      | some D => if (n = D.length ∧ D.length < 268435456) ∧ okB D = true then some (.ls id 0 (compT D).length, s.put id (rowO (compT D)), [id]) else none
      | none => none
    | _ => none) else none
  | _ => none
noncomputable def U5 : Fns := U4.add 61 gCmp
theorem U5_ok (hK : 0 < K) (hT : Tens gw) : FOk (env K gw) U5 := by
  refine (U4_ok hK hT).add fun xs s r s' l h => ?_
  unfold gCmp at h
  split at h
  · rename_i id n
    split at h
    · rename_i hid
      split at h
      · rename_i hs
        split at h
        · rename_i D hD
          split at h
          · rename_i hc
            cases h
            obtain ⟨⟨rfl, hl⟩, h6⟩ := hc
            rw [decD_eq hD] at hs
            exact ft36 hK hT D hid hs hl (okB_iff.1 h6)
          · cases h
        · cases h
      · cases h
    · cases h
  · cases h
/-- tuple.Sort -/
def srt (D : Rows0) : Rows0 := compT (stable D)
end
end Go.Am
namespace Go.Am
open Go.Proofs
theorem stB1_P (n : Nat) {P : Rows0 → Prop} (hP : ∀ a b D, P D → P (insertion a b D)) : ∀ (c a : Nat) {D : Rows0}, P D → P (stB1 n c a D)
  | 0, _, _, h => h
  | c + 1, a, D, h => by
    unfold stB1
    split
    · exact stB1_P n hP c _ (hP _ _ _ h)
    · exact hP _ _ _ h
theorem stB2_P (n : Nat) {P : Rows0 → Prop} (hP : ∀ a m b D, P D → P (symF n a m b D)) : ∀ (c z : Nat) {D : Rows0}, P D → P (stB2 n c z D)
  | 0, _, _, h => h
  | c + 1, z, D, h => by
    unfold stB2
    split
    · exact stB2_P n hP c _ (merB_inv n z hP _ _ h)
    · exact h
theorem stable_P {P : Rows0 → Prop} {D : Rows0} (h1 : ∀ a b D, P D → P (insertion a b D)) (h2 : ∀ n a m b D, P D → P (symF n a m b D)) (h : P D) : P (stable D) :=
  stB2_P _ (h2 _) _ _ (stB1_P _ h1 _ _ h)
@[simp] theorem stable_length (D : Rows0) : (stable D).length = D.length :=
  stable_P (P := fun X => X.length = D.length) (fun a b X h => by rw [insertion_length]; exact h) (fun n a m b X h => by rw [symF_length]; exact h) rfl
theorem stable_ok {D : Rows0} (h : okD D) : okD (stable D) :=
  stable_P (P := okD) (fun a b X h => insertion_ok a b h) (fun n a m b X h => symF_ok n a m b h) h
theorem ddp_mem : ∀ (p : List V) (l : Rows0) {x : List V}, x ∈ ddp p l → x ∈ l
  | _, [], _, h => h
  | p, y :: l, x, h => by
    unfold ddp at h
    split at h
    · exact List.mem_cons_of_mem _ (ddp_mem y l h)
    · rcases List.mem_cons.1 h with rfl | h
      · exact List.mem_cons_self
      · exact List.mem_cons_of_mem _ (ddp_mem y l h)
theorem compT_mem {l : Rows0} {x : List V} (h : x ∈ compT l) : x ∈ l := by
  cases l with
  | nil => exact h
  | cons y l =>
    rcases List.mem_cons.1 h with rfl | h
    · exact List.mem_cons_self
    · exact List.mem_cons_of_mem _ (ddp_mem y l h)
theorem frzRows {s1 : St} {n id : Nat} {C : Rows0} (hs : s1.get id = some (rowO C)) (hn : n ≤ id) : Frz s1 n (.ls id 0 C.length) (.sl (encD C)) := by
  have h := Frz.row (s1 := s1) (n := n) id 1 (true, 33) (encD C) (encD C) hs hn rfl (fun e he => by
    unfold encD at he
    obtain ⟨t, _, rfl⟩ := List.mem_map.1 he
    rfl) (fun i j y hy => ⟨y, hy⟩) (fun i j x y hx hy => by
    rw [hx] at hy
    cases hy
    have := belowO n C
    cases this with
    | row _ _ _ h => exact .same x (h i j x hx))
  rw [encD_length] at h
  exact h
section
variable {K : Nat} {gw : World} {s : St}
attribute [local simp] awanted xop zOf zrow aop ev T0 Slots.put Slots.set Slots.get awr WOk AV.may ofConst abinop aint isConst St.get_push St.get_put St.live AV.fit AV.cells AV.one fieldOf afieldAddr aload ofCells astore splice May eqres env_ti FinP FinZ FinW ares aresL ares1 Fns.addP Fns.add Fns.a0 Fns.a1 Fns.a2 Fns.a3 Fns.a4 abuiltin alenOk alen aindex elemOfT elemId abuildSlice afill chunks ard aappend isSS AV.isStr aminmax placesOf abuild afield aidx isStrD isStrDesc astrop aslice asliceOk abound arange anext aextract aunop aeq AV.ck avseq aveq aconv aconvert onB_t onB_f List.range_succ ti0 ti1 ti2 ti3 ti4 ti5 ti6 ti7 ti8 ti9 ti10 ti11 ti12 ti13 ti14 ti15 ti16 ti17 ti18 ti19 ti20 ti21 ti22 ti23 ti24 ti25 ti26 ti27 ti28 ti29 ti30 ti31 ti32 ti33 ti34 ti35 ti36 ti37 ti38 ti39 ti40 ti41 ti42 ti43 ti44 ti45 ti46 ti47 ti48 ti49 ti50 ti51 ti52 ti53 ti54 ti55 ti56 ti57 ti58 ti59 ti60 ti61 ti62 ti63 ti64 ti65 ti66 ti67 ti68 ti69 ti70 ti71 ti72 ti73 ti74 ti75 ti76 ti77 ti78 ti79 ti80 ti81 ti82 ti83 ti84 ti85 ti86 ti87 ti88 ti89 ti90 ti91 ti92 ti93 ti94 ti95 ti96 ti97 ti98 ti99 ti100 ti101 ti102 ti103 ti104 ti105 ti106 ti107 ti108 ti109 ti110 ti111 ti112 ti113 ti114 ti115 ti116 ti117 ti118 ti119 ti120 ti121 ti122 ti123 ti124 ti125 ti126 ti127 ti128 ti129 ti130 ti131 ti132 ti133 ti134 ti135 ti136 ti137 ti138 ti139 ti140 ti141 ti142 ti143 ti144 ti145 ti146 ti147
set_option maxRecDepth 20000 in
set_option maxHeartbeats 16000000 in
theorem ft18 (hK : 0 < K) (hT : Tens gw) (D : Rows0) (hl : D.length < 268435456) (hok : okD D) :
    FT (env K gw) NoW 50 [.sl (encD D)] s (.sl (encD (srt D))) s := by
  refine FT.data (fn := Tryd.f50) (U5_ok hK hT) mixed Tryd.func50 (by kernel_rfl) (by rfl) rfl rfl (by simp) (by kernel_rfl) fun μ w => ?_
  have h34 : ∀ xs s, U5 58 xs s = gCln xs s := fun xs s => by simp [U5, U4, U3, Fns.add, Fns.addP]
  have h35 : ∀ xs s, U5 59 xs s = gStb2 xs s := fun xs s => by simp [U5, U4, U3, U2, Fns.add, Fns.addP]
  have h36 : ∀ xs s, U5 61 xs s = gCmp xs s := fun xs s => by simp [U5, Fns.add, Fns.addP]
  have ob : okB D = true := okB_iff.2 hok
  have ob2 : okB (stable D) = true := okB_iff.2 (stable_ok hok)
  have hnx := stC_nx s D
  have hg := stC_get s D
  have hlt : s.nx + 1 < s.nx + 2 := by omega
  have hge : s.nx ≤ s.nx + 1 := by omega
  repeat' (first
    | refine WP.t ?_ | refine WP.k ?_ | refine WP.e ?_ | refine Qn ?_ | refine Qr ?_ | refine Qe ?_ | refine Bn ?_ | refine Br ?_ | refine Be ?_ | refine Bx (by decide) ?_
    | (refine RS.nl ?_; refine hk _ _ ?_; clear hk k)
    | ((first | refine RS.st fun A B hA hB => ?_ | refine RQ.st fun A B hA hB => ?_); simp [h34, h35, h36, gCln, gStb2, gCmp, hl, ob, ob2, hnx, hg, hlt, hge, St.get_put_same, St.nx_put, stable_length, onW_t, onW_f, onV_s]; first | ((first | refine hA _ _ _ ?_ ?_ | refine hA _ _ _ ?_ (by first | exact .inl rfl | exact .inr (by decide)) ?_); (focus (simp [h34, h35, h36, gCln, gStb2, gCmp, hl, ob, ob2, hnx, hg, hlt, hge, St.get_put_same, St.nx_put, stable_length] <;> omega)); clear hA hB A B) | (refine hB ?_; clear hA hB A B) | (refine onV_if ?_ ?_; (focus (first | omega | (refine ⟨?_, ?_⟩ <;> omega))); simp only [onV_s]; (first | refine hA _ _ _ ?_ ?_ | refine hA _ _ _ ?_ (by first | exact .inl rfl | exact .inr (by decide)) ?_); (focus (simp [h34, h35, h36, gCln, gStb2, gCmp, hl, ob, ob2, hnx, hg, hlt, hge, St.get_put_same, St.nx_put, stable_length] <;> omega)); clear hA hB A B))
    | (refine RQ.nl ?_; refine hk _ _ ?_; clear hk k)
    | refine WP.sr fun k hk => ?_ | refine WP.r fun k hk => ?_
    | refine WP.sd _ rfl fun k hk => ?_ | refine WP.d _ rfl fun k hk => ?_
    | (refine WP.cc fun A B hA hB => ?_; simp [h34, h35, h36, gCln, gStb2, gCmp, hl, ob, ob2, hnx, hg, hlt, hge, St.get_put_same, St.nx_put, stable_length, onB_t, onB_f]; first | (refine hA ?_; clear hA hB A B) | (refine hB ?_; clear hA hB A B) | (refine onB_if (fun h => hA ?_) (fun h => hB ?_) <;> clear hA hB A B))
    | refine WP.q ?_ | refine WP.b ?_)
  exact ⟨.inr rfl, _, rfl, frzRows (St.get_put_same _ _ _) (by omega)⟩
def pSrt : List AV → Option AV
  | [.sl es] => match decD es with
    | some D => if D.length < 268435456 ∧ okB D = true then some (.sl (encD (srt D))) else none
    | none => none
  | _ => none
end
end Go.Am
namespace Go.Am
open Go.Proofs
/-- How many are ahead of x. -/
def posR (x : List V) : Rows0 → Nat
  | [] => 0
  | y :: l => if cmpT y x < 0 then posR x l + 1 else 0
def refIns (R : Rows0) (x : List V) : Rows0 :=
  if posR x R < R.length ∧ cmpT (gD R (posR x R)) x = 0 then R else R.take (posR x R) ++ [x] ++ R.drop (posR x R)
def refS (D : Rows0) : Rows0 := D.foldl refIns []
theorem posR_le (x : List V) : ∀ R : Rows0, posR x R ≤ R.length
  | [] => Nat.le_refl _
  | y :: l => by
    unfold posR
    have := posR_le x l
    split <;> simp <;> omega
theorem posR_step {x : List V} {R : Rows0} {j : Nat} (h : j < R.length) : posR x (R.drop j) = if cmpT R[j] x < 0 then posR x (R.drop (j + 1)) + 1 else 0 := by
  rw [List.drop_eq_getElem_cons h]
  rfl
@[simp] theorem encD_one (X : Rows0) : ((encD X).all fun y => y.length == 1 && y.all AV.one) = true := by simp [encD, Rw, AV.one]
theorem encD_take (X : Rows0) (n : Nat) : (encD X).take n = encD (X.take n) := by simp [encD, List.map_take]
theorem encD_drop (X : Rows0) (n : Nat) : (encD X).drop n = encD (X.drop n) := by simp [encD, List.map_drop]
theorem encD_append (X Y : Rows0) : encD X ++ encD Y = encD (X ++ Y) := by simp [encD]
theorem encD_sing (x : List V) : [[AV.sl (x.map V.cs)]] = encD [x] := rfl
section
variable {K : Nat} {gw : World} {s : St}
attribute [local simp] awanted xop zOf zrow aop ev T0 Slots.put Slots.set Slots.get awr WOk AV.may ofConst abinop aint isConst St.get_push St.get_put St.live AV.fit AV.cells AV.one fieldOf afieldAddr aload ofCells astore splice May eqres env_ti FinP FinZ FinW ares aresL ares1 Fns.addP Fns.add Fns.a0 Fns.a1 Fns.a2 Fns.a3 Fns.a4 abuiltin alenOk alen aindex elemOfT elemId abuildSlice afill chunks ard aappend isSS AV.isStr aminmax placesOf abuild afield aidx isStrD isStrDesc astrop aslice asliceOk abound arange anext aextract aunop aeq AV.ck avseq aveq aconv aconvert onB_t onB_f List.range_succ ti0 ti1 ti2 ti3 ti4 ti5 ti6 ti7 ti8 ti9 ti10 ti11 ti12 ti13 ti14 ti15 ti16 ti17 ti18 ti19 ti20 ti21 ti22 ti23 ti24 ti25 ti26 ti27 ti28 ti29 ti30 ti31 ti32 ti33 ti34 ti35 ti36 ti37 ti38 ti39 ti40 ti41 ti42 ti43 ti44 ti45 ti46 ti47 ti48 ti49 ti50 ti51 ti52 ti53 ti54 ti55 ti56 ti57 ti58 ti59 ti60 ti61 ti62 ti63 ti64 ti65 ti66 ti67 ti68 ti69 ti70 ti71 ti72 ti73 ti74 ti75 ti76 ti77 ti78 ti79 ti80 ti81 ti82 ti83 ti84 ti85 ti86 ti87 ti88 ti89 ti90 ti91 ti92 ti93 ti94 ti95 ti96 ti97 ti98 ti99 ti100 ti101 ti102 ti103 ti104 ti105 ti106 ti107 ti108 ti109 ti110 ti111 ti112 ti113 ti114 ti115 ti116 ti117 ti118 ti119 ti120 ti121 ti122 ti123 ti124 ti125 ti126 ti127 ti128 ti129 ti130 ti131 ti132 ti133 ti134 ti135 ti136 ti137 ti138 ti139 ti140 ti141 ti142 ti143 ti144 ti145 ti146 ti147
theorem cstk3 (v : V) : v.cs.take 3 = v.cs := rfl
def okR (l : List V) : Bool := decide (l.length < LIM) && l.all fun v => decide (v.s.length < LIM)
set_option maxRecDepth 20000 in
set_option maxHeartbeats 4000000 in
theorem ft23r (hK : 0 < K) (hT : Tens gw) (x y : List V) (hx : okR x = true) (hy : okR y = true) : FT (env K gw) NoW 16 [.sl (x.map V.cs), .sl (y.map V.cs)] s (.int .i64 (cmpT x y)) s := by
  simp only [okR, Bool.and_eq_true, decide_eq_true_eq, List.all_eq_true] at hx hy
  obtain ⟨hx, hxs⟩ := hx
  obtain ⟨hy, hys⟩ := hy
  refine FT.pure (fn := Tryd.f16) (F17_ok hK hT) mixed Tryd.func16 (by kernel_rfl) (by rfl) rfl rfl (by simp) rfl fun μ w => ?_
  repeat' (first
    | refine WP.t ?_ | refine WP.k ?_ | refine WP.e ?_ | refine Qn ?_ | refine Qr ?_ | refine Qe ?_ | refine Bn ?_ | refine Br ?_ | refine Be ?_ | refine Bx (by decide) ?_
    | (refine RS.nl ?_; refine hk _ _ ?_; clear hk k)
    | ((first | refine RS.st fun A B hA hB => ?_ | refine RQ.st fun A B hA hB => ?_); simp [abuiltin, onW_t, onW_f, onV_s]; first | ((first | refine hA _ _ _ ?_ ?_ | refine hA _ _ _ ?_ (by first | exact .inl rfl | exact .inr (by decide)) ?_); (focus (simp [abuiltin] <;> omega)); clear hA hB A B) | (refine hB ?_; clear hA hB A B) | (refine onV_if ?_ ?_; (focus (first | omega | (refine ⟨?_, ?_⟩ <;> omega))); simp only [onV_s]; (first | refine hA _ _ _ ?_ ?_ | refine hA _ _ _ ?_ (by first | exact .inl rfl | exact .inr (by decide)) ?_); (focus (simp [abuiltin] <;> omega)); clear hA hB A B))
    | (refine RQ.nl ?_; refine hk _ _ ?_; clear hk k)
    | refine WP.sr fun k hk => ?_ | refine WP.r fun k hk => ?_
    | refine WP.sd _ rfl fun k hk => ?_ | refine WP.d _ rfl fun k hk => ?_
    | (refine WP.cc fun A B hA hB => ?_; simp [abuiltin, onB_t, onB_f]; first | (refine hA ?_; clear hA hB A B) | (refine hB ?_; clear hA hB A B) | (refine onB_if (fun h => hA ?_) (fun h => hB ?_) <;> clear hA hB A B))
    | refine WP.q ?_ | refine WP.b ?_)
  refine WP_loop (fun n T s' => ∃ i : Nat, n + i = min x.length y.length ∧ s' = s ∧ T.get 0 = .sl (x.map V.cs) ∧ T.get 1 = .sl (y.map V.cs) ∧ T.get 5 = .int .i64 i ∧ cmpT x y = cmpT (x.drop i) (y.drop i)) (min x.length y.length) ⟨0, by simp, rfl, by simp, by simp, by simp, by simp⟩ ?_
  rintro n T s' ⟨i, hn, rfl, h0, h1, h5, hc⟩
  by_cases hi : i < min x.length y.length
  · have hx' : i < x.length := by omega
    have hy' : i < y.length := by omega
    have hw : IntKind.i64.wrap ((i : Int) + 1) = (i : Int) + 1 := wrap64 (by omega) (by simp only [LIM] at hx; omega)
    have ha : x[i]? = some x[i] := List.getElem?_eq_getElem hx'
    have hb : y[i]? = some y[i] := List.getElem?_eq_getElem hy'
    have hxl := hxs x[i] (List.getElem_mem hx')
    have hyl := hys y[i] (List.getElem_mem hy')
    rw [cmpT_drop hx' hy'] at hc
    by_cases hz : cmpV x[i] y[i] = 0
    · rw [if_pos hz] at hc
      repeat' (first
        | refine WP.t ?_ | refine WP.k ?_ | refine WP.e ?_ | refine Qn ?_ | refine Qr ?_ | refine Qe ?_ | refine Bn ?_ | refine Br ?_ | refine Be ?_ | refine Bx (by decide) ?_
        | (refine RS.nl ?_; refine hk _ _ ?_; clear hk k)
        | ((first | refine RS.st fun A B hA hB => ?_ | refine RQ.st fun A B hA hB => ?_); simp [F17, F16, F15, F14, pSameV, pComp, abuiltin, alen, alenOk, ti33, ti25, elemOfT, aindex, h0, h1, h5, hx', hy', ha, hb, hw, hxl, hyl, hz, bare_cs_len, cstk3, aunop, onW_t, onW_f, onV_s]; first | ((first | refine hA _ _ _ ?_ ?_ | refine hA _ _ _ ?_ (by first | exact .inl rfl | exact .inr (by decide)) ?_); (focus (simp [F17, F16, F15, F14, pSameV, pComp, abuiltin, alen, alenOk, ti33, ti25, elemOfT, aindex, h0, h1, h5, hx', hy', ha, hb, hw, hxl, hyl, hz, bare_cs_len, cstk3, aunop] <;> omega)); clear hA hB A B) | (refine hB ?_; clear hA hB A B) | (refine onV_if ?_ ?_; (focus (first | omega | (refine ⟨?_, ?_⟩ <;> omega))); simp only [onV_s]; (first | refine hA _ _ _ ?_ ?_ | refine hA _ _ _ ?_ (by first | exact .inl rfl | exact .inr (by decide)) ?_); (focus (simp [F17, F16, F15, F14, pSameV, pComp, abuiltin, alen, alenOk, ti33, ti25, elemOfT, aindex, h0, h1, h5, hx', hy', ha, hb, hw, hxl, hyl, hz, bare_cs_len, cstk3, aunop] <;> omega)); clear hA hB A B))
        | (refine RQ.nl ?_; refine hk _ _ ?_; clear hk k)
        | refine WP.sr fun k hk => ?_ | refine WP.r fun k hk => ?_
        | refine WP.sd _ rfl fun k hk => ?_ | refine WP.d _ rfl fun k hk => ?_
        | (refine WP.cc fun A B hA hB => ?_; simp [F17, F16, F15, F14, pSameV, pComp, abuiltin, alen, alenOk, ti33, ti25, elemOfT, aindex, h0, h1, h5, hx', hy', ha, hb, hw, hxl, hyl, hz, bare_cs_len, cstk3, aunop, onB_t, onB_f]; first | (refine hA ?_; clear hA hB A B) | (refine hB ?_; clear hA hB A B) | (refine onB_if (fun h => hA ?_) (fun h => hB ?_) <;> clear hA hB A B))
        | refine WP.q ?_ | refine WP.b ?_)
      exact ⟨n - 1, by omega, i + 1, by omega, rfl, by simp [h0], by simp [h1], by simp, hc⟩
    · rw [if_neg hz] at hc
      have hz2 : (cmpV x[i] y[i] == 0) = false := by rw [beq_eq_false_iff_ne]; exact hz
      rw [hc]
      repeat' (first
        | refine WP.t ?_ | refine WP.k ?_ | refine WP.e ?_ | refine Qn ?_ | refine Qr ?_ | refine Qe ?_ | refine Bn ?_ | refine Br ?_ | refine Be ?_ | refine Bx (by decide) ?_
        | (refine RS.nl ?_; refine hk _ _ ?_; clear hk k)
        | ((first | refine RS.st fun A B hA hB => ?_ | refine RQ.st fun A B hA hB => ?_); simp [F17, F16, F15, F14, pSameV, pComp, abuiltin, alen, alenOk, ti33, ti25, elemOfT, aindex, h0, h1, h5, hx', hy', ha, hb, hw, hxl, hyl, hz2, bare_cs_len, cstk3, aunop, onW_t, onW_f, onV_s]; first | ((first | refine hA _ _ _ ?_ ?_ | refine hA _ _ _ ?_ (by first | exact .inl rfl | exact .inr (by decide)) ?_); (focus (simp [F17, F16, F15, F14, pSameV, pComp, abuiltin, alen, alenOk, ti33, ti25, elemOfT, aindex, h0, h1, h5, hx', hy', ha, hb, hw, hxl, hyl, hz2, bare_cs_len, cstk3, aunop] <;> omega)); clear hA hB A B) | (refine hB ?_; clear hA hB A B) | (refine onV_if ?_ ?_; (focus (first | omega | (refine ⟨?_, ?_⟩ <;> omega))); simp only [onV_s]; (first | refine hA _ _ _ ?_ ?_ | refine hA _ _ _ ?_ (by first | exact .inl rfl | exact .inr (by decide)) ?_); (focus (simp [F17, F16, F15, F14, pSameV, pComp, abuiltin, alen, alenOk, ti33, ti25, elemOfT, aindex, h0, h1, h5, hx', hy', ha, hb, hw, hxl, hyl, hz2, bare_cs_len, cstk3, aunop] <;> omega)); clear hA hB A B))
        | (refine RQ.nl ?_; refine hk _ _ ?_; clear hk k)
        | refine WP.sr fun k hk => ?_ | refine WP.r fun k hk => ?_
        | refine WP.sd _ rfl fun k hk => ?_ | refine WP.d _ rfl fun k hk => ?_
        | (refine WP.cc fun A B hA hB => ?_; simp [F17, F16, F15, F14, pSameV, pComp, abuiltin, alen, alenOk, ti33, ti25, elemOfT, aindex, h0, h1, h5, hx', hy', ha, hb, hw, hxl, hyl, hz2, bare_cs_len, cstk3, aunop, onB_t, onB_f]; first | (refine hA ?_; clear hA hB A B) | (refine hB ?_; clear hA hB A B) | (refine onB_if (fun h => hA ?_) (fun h => hB ?_) <;> clear hA hB A B))
        | refine WP.q ?_ | refine WP.b ?_)
      simp
  · have he : i = min x.length y.length := by omega
    rw [cmpT_end he] at hc
    rw [hc]
    by_cases hx' : i < x.length
    · have hy' : ¬ i < y.length := by omega
      repeat' (first
        | refine WP.t ?_ | refine WP.k ?_ | refine WP.e ?_ | refine Qn ?_ | refine Qr ?_ | refine Qe ?_ | refine Bn ?_ | refine Br ?_ | refine Be ?_ | refine Bx (by decide) ?_
        | (refine RS.nl ?_; refine hk _ _ ?_; clear hk k)
        | ((first | refine RS.st fun A B hA hB => ?_ | refine RQ.st fun A B hA hB => ?_); simp [abuiltin, alenOk, alen, ti33, h0, h1, h5, hx', hy', onW_t, onW_f, onV_s]; first | ((first | refine hA _ _ _ ?_ ?_ | refine hA _ _ _ ?_ (by first | exact .inl rfl | exact .inr (by decide)) ?_); (focus (simp [abuiltin, alenOk, alen, ti33, h0, h1, h5, hx', hy'] <;> omega)); clear hA hB A B) | (refine hB ?_; clear hA hB A B) | (refine onV_if ?_ ?_; (focus (first | omega | (refine ⟨?_, ?_⟩ <;> omega))); simp only [onV_s]; (first | refine hA _ _ _ ?_ ?_ | refine hA _ _ _ ?_ (by first | exact .inl rfl | exact .inr (by decide)) ?_); (focus (simp [abuiltin, alenOk, alen, ti33, h0, h1, h5, hx', hy'] <;> omega)); clear hA hB A B))
        | (refine RQ.nl ?_; refine hk _ _ ?_; clear hk k)
        | refine WP.sr fun k hk => ?_ | refine WP.r fun k hk => ?_
        | refine WP.sd _ rfl fun k hk => ?_ | refine WP.d _ rfl fun k hk => ?_
        | (refine WP.cc fun A B hA hB => ?_; simp [abuiltin, alenOk, alen, ti33, h0, h1, h5, hx', hy', onB_t, onB_f]; first | (refine hA ?_; clear hA hB A B) | (refine hB ?_; clear hA hB A B) | (refine onB_if (fun h => hA ?_) (fun h => hB ?_) <;> clear hA hB A B))
        | refine WP.q ?_ | refine WP.b ?_)
      all_goals (simp at *; unfold cmpI; first | (rw [if_pos (by omega)]; done) | (rw [if_neg (by omega), if_pos (by omega)]; done) | rw [if_neg (by omega), if_neg (by omega)])
    · skip
      repeat' (first
        | refine WP.t ?_ | refine WP.k ?_ | refine WP.e ?_ | refine Qn ?_ | refine Qr ?_ | refine Qe ?_ | refine Bn ?_ | refine Br ?_ | refine Be ?_ | refine Bx (by decide) ?_
        | (refine RS.nl ?_; refine hk _ _ ?_; clear hk k)
        | ((first | refine RS.st fun A B hA hB => ?_ | refine RQ.st fun A B hA hB => ?_); simp [abuiltin, alenOk, alen, ti33, h0, h1, h5, hx', onW_t, onW_f, onV_s]; first | ((first | refine hA _ _ _ ?_ ?_ | refine hA _ _ _ ?_ (by first | exact .inl rfl | exact .inr (by decide)) ?_); (focus (simp [abuiltin, alenOk, alen, ti33, h0, h1, h5, hx'] <;> omega)); clear hA hB A B) | (refine hB ?_; clear hA hB A B) | (refine onV_if ?_ ?_; (focus (first | omega | (refine ⟨?_, ?_⟩ <;> omega))); simp only [onV_s]; (first | refine hA _ _ _ ?_ ?_ | refine hA _ _ _ ?_ (by first | exact .inl rfl | exact .inr (by decide)) ?_); (focus (simp [abuiltin, alenOk, alen, ti33, h0, h1, h5, hx'] <;> omega)); clear hA hB A B))
        | (refine RQ.nl ?_; refine hk _ _ ?_; clear hk k)
        | refine WP.sr fun k hk => ?_ | refine WP.r fun k hk => ?_
        | refine WP.sd _ rfl fun k hk => ?_ | refine WP.d _ rfl fun k hk => ?_
        | (refine WP.cc fun A B hA hB => ?_; simp [abuiltin, alenOk, alen, ti33, h0, h1, h5, hx', onB_t, onB_f]; first | (refine hA ?_; clear hA hB A B) | (refine hB ?_; clear hA hB A B) | (refine onB_if (fun h => hA ?_) (fun h => hB ?_) <;> clear hA hB A B))
        | refine WP.q ?_ | refine WP.b ?_)
      all_goals (simp at *; unfold cmpI; first | (rw [if_pos (by omega)]; done) | (rw [if_neg (by omega), if_pos (by omega)]; done) | rw [if_neg (by omega), if_neg (by omega)])
def pCmpQ : List AV → Option AV
  | [.sl a, .sl b] => match decL a, decL b with
    | some x, some y => if okR x = true ∧ okR y = true then some (.int .i64 (cmpT x y)) else none
    | _, _ => none
  | _ => none
noncomputable def V0 : Fns := F17.addP 16 pCmpQ
theorem V0_ok (hK : 0 < K) (hT : Tens gw) : FOk (env K gw) V0 := by
  refine (F17_ok hK hT).addP fun xs s r h => ?_
  unfold pCmpQ at h
  split at h
  · split at h
    · rename_i h1 h2
      split at h
      · rename_i hl
        cases h
        rw [decL_eq h1, decL_eq h2]
        exact ft23r hK hT _ _ hl.1 hl.2
      · cases h
    · cases h
  · cases h
set_option maxRecDepth 20000 in
set_option maxHeartbeats 16000000 in
theorem ft19 (hK : 0 < K) (hT : Tens gw) (D : Rows0) (hl : D.length < 268435456) (hok : ∀ t ∈ D, okR t = true) :
    FT (env K gw) NoW 29 [.sl (encD D)] s (.sl (encD (refS D))) s := by
  refine FT.data (fn := Tryd.f29) (V0_ok hK hT) mixed Tryd.func29 (by kernel_rfl) (by rfl) rfl rfl (by simp) (by kernel_rfl) fun μ w => ?_
  have hcmp : ∀ (x y : List V) (s : St), okR x = true → okR y = true → V0 16 [.sl (x.map V.cs), .sl (y.map V.cs)] s = some (.int .i64 (cmpT x y), s, []) := fun x y s hx hy => by
    simp [V0, Fns.addP, pCmpQ, hx, hy]
  repeat' (first
    | refine WP.t ?_ | refine WP.k ?_ | refine WP.e ?_ | refine Qn ?_ | refine Qr ?_ | refine Qe ?_ | refine Bn ?_ | refine Br ?_ | refine Be ?_ | refine Bx (by decide) ?_
    | (refine RS.nl ?_; refine hk _ _ ?_; clear hk k)
    | ((first | refine RS.st fun A B hA hB => ?_ | refine RQ.st fun A B hA hB => ?_); simp [abuiltin, alenOk, alen, ti36, onW_t, onW_f, onV_s]; first | ((first | refine hA _ _ _ ?_ ?_ | refine hA _ _ _ ?_ (by first | exact .inl rfl | exact .inr (by decide)) ?_); (focus (simp [abuiltin, alenOk, alen, ti36] <;> omega)); clear hA hB A B) | (refine hB ?_; clear hA hB A B) | (refine onV_if ?_ ?_; (focus (first | omega | (refine ⟨?_, ?_⟩ <;> omega))); simp only [onV_s]; (first | refine hA _ _ _ ?_ ?_ | refine hA _ _ _ ?_ (by first | exact .inl rfl | exact .inr (by decide)) ?_); (focus (simp [abuiltin, alenOk, alen, ti36] <;> omega)); clear hA hB A B))
    | (refine RQ.nl ?_; refine hk _ _ ?_; clear hk k)
    | refine WP.sr fun k hk => ?_ | refine WP.r fun k hk => ?_
    | refine WP.sd _ rfl fun k hk => ?_ | refine WP.d _ rfl fun k hk => ?_
    | (refine WP.cc fun A B hA hB => ?_; simp [abuiltin, alenOk, alen, ti36, onB_t, onB_f]; first | (refine hA ?_; clear hA hB A B) | (refine hB ?_; clear hA hB A B) | (refine onB_if (fun h => hA ?_) (fun h => hB ?_) <;> clear hA hB A B))
    | refine WP.q ?_ | refine WP.b ?_)
  refine WP_loop (fun n T s' => ∃ (i : Nat) (R : Rows0), n = D.length - i ∧ i ≤ D.length ∧ R.length ≤ i ∧ (∀ t ∈ R, okR t = true) ∧ s.nx ≤ s'.nx ∧ (D.drop i).foldl refIns R = refS D ∧ T.get 0 = .sl (encD D) ∧ T.get 4 = .int .i64 i ∧
      ((T.get 3 = .nsl ∧ R = []) ∨ ∃ rd, s.nx ≤ rd ∧ rd < s'.nx ∧ s'.get rd = some (rowO R) ∧ T.get 3 = .ls rd 0 R.length))
    D.length ⟨0, [], rfl, by omega, by simp, by simp, Nat.le_refl _, rfl, by simp, by simp, .inl ⟨by simp, rfl⟩⟩ ?_
  rintro n T s' ⟨i, R, hn, hi, hRi, hokR, hnx, hfold, g0, g4, hB⟩
  by_cases hlt : i < D.length
  · have hlti : (i : Int) < (D.length : Int) := by omega
    have hx := encD_get hlt
    have ox := hok _ (List.getElem_mem hlt)
    have hfold : (D.drop (i + 1)).foldl refIns (refIns R D[i]) = refS D := by
      rw [← hfold, List.drop_eq_getElem_cons hlt]
      rfl
    generalize D[i] = x at *
    have rwx : Rw x = [.sl (x.map V.cs)] := rfl
    have hbx : ∀ n, Below n (.sl (x.map V.cs)) := fun n => by simp [V.cs]
    have hme : ∀ e, (e ∈ encD [x]) = (e = [.sl (x.map V.cs)]) := fun e => by simp [encD, Rw]
    have hle1 : (encD [x]).length = 1 := rfl
    have w1 : IntKind.i64.wrap ((i : Int) + 1) = (i : Int) + 1 := wrap64 (by omega) (by omega)
    rcases hB with ⟨g3, rfl⟩ | ⟨rd, hrd, hrd2, hget, g3⟩
    · skip
      repeat' (first
        | refine WP.t ?_ | refine WP.k ?_ | refine WP.e ?_ | refine Qn ?_ | refine Qr ?_ | refine Qe ?_ | refine Bn ?_ | refine Br ?_ | refine Be ?_ | refine Bx (by decide) ?_
        | (refine RS.nl ?_; refine hk _ _ ?_; clear hk k)
        | ((first | refine RS.st fun A B hA hB => ?_ | refine RQ.st fun A B hA hB => ?_); simp [g0, g3, g4, abuiltin, alenOk, alen, hlti, ti36, onW_t, onW_f, onV_s]; first | ((first | refine hA _ _ _ ?_ ?_ | refine hA _ _ _ ?_ (by first | exact .inl rfl | exact .inr (by decide)) ?_); (focus (simp [g0, g3, g4, abuiltin, alenOk, alen, hlti, ti36] <;> omega)); clear hA hB A B) | (refine hB ?_; clear hA hB A B) | (refine onV_if ?_ ?_; (focus (first | omega | (refine ⟨?_, ?_⟩ <;> omega))); simp only [onV_s]; (first | refine hA _ _ _ ?_ ?_ | refine hA _ _ _ ?_ (by first | exact .inl rfl | exact .inr (by decide)) ?_); (focus (simp [g0, g3, g4, abuiltin, alenOk, alen, hlti, ti36] <;> omega)); clear hA hB A B))
        | (refine RQ.nl ?_; refine hk _ _ ?_; clear hk k)
        | refine WP.sr fun k hk => ?_ | refine WP.r fun k hk => ?_
        | refine WP.sd _ rfl fun k hk => ?_ | refine WP.d _ rfl fun k hk => ?_
        | (refine WP.cc fun A B hA hB => ?_; simp [g0, g3, g4, abuiltin, alenOk, alen, hlti, ti36, onB_t, onB_f]; first | (refine hA ?_; clear hA hB A B) | (refine hB ?_; clear hA hB A B) | (refine onB_if (fun h => hA ?_) (fun h => hB ?_) <;> clear hA hB A B))
        | refine WP.q ?_ | refine WP.b ?_)
      refine WP_loop (fun n2 T2 s2 => s2 = s' ∧ T2.get 0 = .sl (encD D) ∧ T2.get 3 = .nsl ∧ T2.get 4 = .int .i64 i ∧ T2.get 5 = .int .i64 0) 0 ⟨rfl, by simp [g0], by simp [g3], by simp [g4], by simp⟩ ?_
      rintro n2 T2 s2 ⟨rfl, k0, k3, k4, k5⟩
      have hby : ∀ m : Nat, m ≤ 2 → m * 24 ≤ 140737488355328 := fun m hm => by omega
      repeat' (first
        | refine WP.t ?_ | refine WP.k ?_ | refine WP.e ?_ | refine Qn ?_ | refine Qr ?_ | refine Qe ?_ | refine Bn ?_ | refine Br ?_ | refine Be ?_ | refine Bx (by decide) ?_
        | (refine RS.nl ?_; refine hk _ _ ?_; clear hk k)
        | ((first | refine RS.st fun A B hA hB => ?_ | refine RQ.st fun A B hA hB => ?_); simp [hbx, hme, hle1, k0, k3, k4, k5, hx, rwx, abuiltin, alenOk, alen, hlti, ti36, ti33, elemOfT, elemId, aindex, asliceOk, aslice, abound, abuildSlice, afill, chunks, ard, aappend, isSS, AV.isStr, AV.one, hnx, onW_t, onW_f, onV_s]; first | ((first | refine hA _ _ _ ?_ ?_ | refine hA _ _ _ ?_ (by first | exact .inl rfl | exact .inr (by decide)) ?_); (focus (simp [hbx, hme, hle1, k0, k3, k4, k5, hx, rwx, abuiltin, alenOk, alen, hlti, ti36, ti33, elemOfT, elemId, aindex, asliceOk, aslice, abound, abuildSlice, afill, chunks, ard, aappend, isSS, AV.isStr, AV.one, hnx] <;> omega)); clear hA hB A B) | (refine hB ?_; clear hA hB A B) | (refine onV_if ?_ ?_; (focus (first | omega | (refine ⟨?_, ?_⟩ <;> omega))); simp only [onV_s]; (first | refine hA _ _ _ ?_ ?_ | refine hA _ _ _ ?_ (by first | exact .inl rfl | exact .inr (by decide)) ?_); (focus (simp [hbx, hme, hle1, k0, k3, k4, k5, hx, rwx, abuiltin, alenOk, alen, hlti, ti36, ti33, elemOfT, elemId, aindex, asliceOk, aslice, abound, abuildSlice, afill, chunks, ard, aappend, isSS, AV.isStr, AV.one, hnx] <;> omega)); clear hA hB A B))
        | (refine RQ.nl ?_; refine hk _ _ ?_; clear hk k)
        | refine WP.sr fun k hk => ?_ | refine WP.r fun k hk => ?_
        | refine WP.sd _ rfl fun k hk => ?_ | refine WP.d _ rfl fun k hk => ?_
        | (refine WP.cc fun A B hA hB => ?_; simp [hbx, hme, hle1, k0, k3, k4, k5, hx, rwx, abuiltin, alenOk, alen, hlti, ti36, ti33, elemOfT, elemId, aindex, asliceOk, aslice, abound, abuildSlice, afill, chunks, ard, aappend, isSS, AV.isStr, AV.one, hnx, onB_t, onB_f]; first | (refine hA ?_; clear hA hB A B) | (refine hB ?_; clear hA hB A B) | (refine onB_if (fun h => hA ?_) (fun h => hB ?_) <;> clear hA hB A B))
        | refine WP.q ?_ | refine WP.b ?_)
      refine ⟨D.length - (i + 1), by omega, i + 1, [x], rfl, by omega, by simp, by simpa using ox, by simp; omega, hfold, by simp [k0], by simp [w1], .inr ⟨s2.nx + 1 + 1 + 1, by omega, by simp, by simp [encD, Rw], by simp⟩⟩
    · skip
      repeat' (first
        | refine WP.t ?_ | refine WP.k ?_ | refine WP.e ?_ | refine Qn ?_ | refine Qr ?_ | refine Qe ?_ | refine Bn ?_ | refine Br ?_ | refine Be ?_ | refine Bx (by decide) ?_
        | (refine RS.nl ?_; refine hk _ _ ?_; clear hk k)
        | ((first | refine RS.st fun A B hA hB => ?_ | refine RQ.st fun A B hA hB => ?_); simp [g0, g3, g4, abuiltin, alenOk, alen, hlti, ti36, hget, onW_t, onW_f, onV_s]; first | ((first | refine hA _ _ _ ?_ ?_ | refine hA _ _ _ ?_ (by first | exact .inl rfl | exact .inr (by decide)) ?_); (focus (simp [g0, g3, g4, abuiltin, alenOk, alen, hlti, ti36, hget] <;> omega)); clear hA hB A B) | (refine hB ?_; clear hA hB A B) | (refine onV_if ?_ ?_; (focus (first | omega | (refine ⟨?_, ?_⟩ <;> omega))); simp only [onV_s]; (first | refine hA _ _ _ ?_ ?_ | refine hA _ _ _ ?_ (by first | exact .inl rfl | exact .inr (by decide)) ?_); (focus (simp [g0, g3, g4, abuiltin, alenOk, alen, hlti, ti36, hget] <;> omega)); clear hA hB A B))
        | (refine RQ.nl ?_; refine hk _ _ ?_; clear hk k)
        | refine WP.sr fun k hk => ?_ | refine WP.r fun k hk => ?_
        | refine WP.sd _ rfl fun k hk => ?_ | refine WP.d _ rfl fun k hk => ?_
        | (refine WP.cc fun A B hA hB => ?_; simp [g0, g3, g4, abuiltin, alenOk, alen, hlti, ti36, hget, onB_t, onB_f]; first | (refine hA ?_; clear hA hB A B) | (refine hB ?_; clear hA hB A B) | (refine onB_if (fun h => hA ?_) (fun h => hB ?_) <;> clear hA hB A B))
        | refine WP.q ?_ | refine WP.b ?_)
      have hstep : refIns R x = if posR x R < R.length ∧ cmpT (gD R (posR x R)) x = 0 then R else R.take (posR x R) ++ [x] ++ R.drop (posR x R) := rfl
      refine WP_loop (fun n2 T2 s2 => s2 = s' ∧ ∃ j : Nat, n2 = R.length - j ∧ j ≤ R.length ∧ j + posR x (R.drop j) = posR x R ∧ T2.get 0 = .sl (encD D) ∧ T2.get 3 = .ls rd 0 R.length ∧ T2.get 4 = .int .i64 i ∧ T2.get 5 = .int .i64 j) R.length ⟨rfl, 0, rfl, Nat.zero_le _, by simp, by simp [g0], by simp [g3], by simp [g4], by simp⟩ ?_
      rintro n2 T2 s2 ⟨rfl, j, hn2, hjR, hpos, k0, k3, k4, k5⟩
      have w2 : IntKind.i64.wrap ((j : Int) + 1) = (j : Int) + 1 := wrap64 (by omega) (by omega)
      have ne0 : ¬ rd = s2.nx := by omega
      have ne1 : ¬ rd = s2.nx + 1 := by omega
      have ne2 : ¬ rd = s2.nx + 1 + 1 := by omega
      have ne3 : ¬ rd = s2.nx + 1 + 1 + 1 := by omega
      have ne4 : ¬ rd = s2.nx + 1 + 1 + 1 + 1 := by omega
      have jl : (j : Int) ≤ (R.length : Int) := by omega
      have tdr : (R.drop j).take (R.length - j) = R.drop j := List.take_of_length_le (by simp)
      have jmin : min j R.length = j := by omega
      have b1 : j * 24 ≤ 140737488355328 := by omega
      have b2 : (j + 1) * 24 ≤ 140737488355328 := by omega
      have b3 : (j + 1 + (R.length - j)) * 24 ≤ 140737488355328 := by omega
      by_cases hj : j < R.length
      · have hji : (j : Int) < (R.length : Int) := by omega
        have hy := encD_get hj
        have oy := hokR _ (List.getElem_mem hj)
        have hgd : gD R j = R[j] := gD_of hj
        rw [posR_step hj] at hpos
        generalize R[j] = y at *
        have rwy : Rw y = [.sl (y.map V.cs)] := rfl
        have hcm := fun s => hcmp y x s oy ox
        by_cases hc : cmpT y x < 0
        · rw [if_pos hc] at hpos
          repeat' (first
            | refine WP.t ?_ | refine WP.k ?_ | refine WP.e ?_ | refine Qn ?_ | refine Qr ?_ | refine Qe ?_ | refine Bn ?_ | refine Br ?_ | refine Be ?_ | refine Bx (by decide) ?_
            | (refine RS.nl ?_; refine hk _ _ ?_; clear hk k)
            | ((first | refine RS.st fun A B hA hB => ?_ | refine RQ.st fun A B hA hB => ?_); simp [hbx, hme, hle1, k0, k3, k4, k5, hx, rwx, abuiltin, alenOk, alen, hlti, ti36, ti33, elemOfT, elemId, aindex, hget, hy, rwy, hcm, hc, hji, w2, onW_t, onW_f, onV_s]; first | ((first | refine hA _ _ _ ?_ ?_ | refine hA _ _ _ ?_ (by first | exact .inl rfl | exact .inr (by decide)) ?_); (focus (simp [hbx, hme, hle1, k0, k3, k4, k5, hx, rwx, abuiltin, alenOk, alen, hlti, ti36, ti33, elemOfT, elemId, aindex, hget, hy, rwy, hcm, hc, hji, w2] <;> omega)); clear hA hB A B) | (refine hB ?_; clear hA hB A B) | (refine onV_if ?_ ?_; (focus (first | omega | (refine ⟨?_, ?_⟩ <;> omega))); simp only [onV_s]; (first | refine hA _ _ _ ?_ ?_ | refine hA _ _ _ ?_ (by first | exact .inl rfl | exact .inr (by decide)) ?_); (focus (simp [hbx, hme, hle1, k0, k3, k4, k5, hx, rwx, abuiltin, alenOk, alen, hlti, ti36, ti33, elemOfT, elemId, aindex, hget, hy, rwy, hcm, hc, hji, w2] <;> omega)); clear hA hB A B))
            | (refine RQ.nl ?_; refine hk _ _ ?_; clear hk k)
            | refine WP.sr fun k hk => ?_ | refine WP.r fun k hk => ?_
            | refine WP.sd _ rfl fun k hk => ?_ | refine WP.d _ rfl fun k hk => ?_
            | (refine WP.cc fun A B hA hB => ?_; simp [hbx, hme, hle1, k0, k3, k4, k5, hx, rwx, abuiltin, alenOk, alen, hlti, ti36, ti33, elemOfT, elemId, aindex, hget, hy, rwy, hcm, hc, hji, w2, onB_t, onB_f]; first | (refine hA ?_; clear hA hB A B) | (refine hB ?_; clear hA hB A B) | (refine onB_if (fun h => hA ?_) (fun h => hB ?_) <;> clear hA hB A B))
            | refine WP.q ?_ | refine WP.b ?_)
          exact ⟨R.length - (j + 1), by omega, rfl, j + 1, rfl, by omega, by omega, by simp [k0], by simp [k3], by simp [k4], by simp [w2]⟩
        · rw [if_neg hc] at hpos
          have hpj : posR x R = j := by omega
          rw [hpj, hgd] at hstep
          by_cases hz : cmpT y x = 0
          · rw [if_pos ⟨hj, hz⟩] at hstep
            rw [hstep] at hfold
            repeat' (first
              | refine WP.t ?_ | refine WP.k ?_ | refine WP.e ?_ | refine Qn ?_ | refine Qr ?_ | refine Qe ?_ | refine Bn ?_ | refine Br ?_ | refine Be ?_ | refine Bx (by decide) ?_
              | (refine RS.nl ?_; refine hk _ _ ?_; clear hk k)
              | ((first | refine RS.st fun A B hA hB => ?_ | refine RQ.st fun A B hA hB => ?_); simp [hbx, hme, hle1, k0, k3, k4, k5, hx, rwx, abuiltin, alenOk, alen, hlti, ti36, ti33, elemOfT, elemId, aindex, hget, hy, rwy, hcm, hc, hz, hji, w1, onW_t, onW_f, onV_s]; first | ((first | refine hA _ _ _ ?_ ?_ | refine hA _ _ _ ?_ (by first | exact .inl rfl | exact .inr (by decide)) ?_); (focus (simp [hbx, hme, hle1, k0, k3, k4, k5, hx, rwx, abuiltin, alenOk, alen, hlti, ti36, ti33, elemOfT, elemId, aindex, hget, hy, rwy, hcm, hc, hz, hji, w1] <;> omega)); clear hA hB A B) | (refine hB ?_; clear hA hB A B) | (refine onV_if ?_ ?_; (focus (first | omega | (refine ⟨?_, ?_⟩ <;> omega))); simp only [onV_s]; (first | refine hA _ _ _ ?_ ?_ | refine hA _ _ _ ?_ (by first | exact .inl rfl | exact .inr (by decide)) ?_); (focus (simp [hbx, hme, hle1, k0, k3, k4, k5, hx, rwx, abuiltin, alenOk, alen, hlti, ti36, ti33, elemOfT, elemId, aindex, hget, hy, rwy, hcm, hc, hz, hji, w1] <;> omega)); clear hA hB A B))
              | (refine RQ.nl ?_; refine hk _ _ ?_; clear hk k)
              | refine WP.sr fun k hk => ?_ | refine WP.r fun k hk => ?_
              | refine WP.sd _ rfl fun k hk => ?_ | refine WP.d _ rfl fun k hk => ?_
              | (refine WP.cc fun A B hA hB => ?_; simp [hbx, hme, hle1, k0, k3, k4, k5, hx, rwx, abuiltin, alenOk, alen, hlti, ti36, ti33, elemOfT, elemId, aindex, hget, hy, rwy, hcm, hc, hz, hji, w1, onB_t, onB_f]; first | (refine hA ?_; clear hA hB A B) | (refine hB ?_; clear hA hB A B) | (refine onB_if (fun h => hA ?_) (fun h => hB ?_) <;> clear hA hB A B))
              | refine WP.q ?_ | refine WP.b ?_)
            exact ⟨D.length - (i + 1), by omega, i + 1, R, rfl, by omega, by omega, hokR, hnx, hfold, by simp [k0], by simp [w1], .inr ⟨rd, hrd, hrd2, hget, by simp [k3]⟩⟩
          · rw [if_neg (fun h => hz h.2)] at hstep
            rw [hstep] at hfold
            have hz2 : (cmpT y x == 0) = false := by rw [beq_eq_false_iff_ne]; exact hz
            repeat' (first
              | refine WP.t ?_ | refine WP.k ?_ | refine WP.e ?_ | refine Qn ?_ | refine Qr ?_ | refine Qe ?_ | refine Bn ?_ | refine Br ?_ | refine Be ?_ | refine Bx (by decide) ?_
              | (refine RS.nl ?_; refine hk _ _ ?_; clear hk k)
              | ((first | refine RS.st fun A B hA hB => ?_ | refine RQ.st fun A B hA hB => ?_); simp [hbx, hme, hle1, k0, k3, k4, k5, hx, rwx, abuiltin, alenOk, alen, hlti, ti36, ti33, elemOfT, elemId, aindex, hget, asliceOk, aslice, abound, abuildSlice, afill, chunks, ard, aappend, isSS, AV.isStr, hnx, hjR, encD_take, encD_drop, encD_append, encD_sing, encD_one, ne0, ne1, ne2, ne3, ne4, jl, jmin, b1, b2, b3, hrd2, St.get_push, St.get_drop, hy, rwy, hcm, hc, hz, hz2, hji, w1, onW_t, onW_f, onV_s]; first | ((first | refine hA _ _ _ ?_ ?_ | refine hA _ _ _ ?_ (by first | exact .inl rfl | exact .inr (by decide)) ?_); (focus (simp [hbx, hme, hle1, k0, k3, k4, k5, hx, rwx, abuiltin, alenOk, alen, hlti, ti36, ti33, elemOfT, elemId, aindex, hget, asliceOk, aslice, abound, abuildSlice, afill, chunks, ard, aappend, isSS, AV.isStr, hnx, hjR, encD_take, encD_drop, encD_append, encD_sing, encD_one, ne0, ne1, ne2, ne3, ne4, jl, jmin, b1, b2, b3, hrd2, St.get_push, St.get_drop, hy, rwy, hcm, hc, hz, hz2, hji, w1] <;> omega)); clear hA hB A B) | (refine hB ?_; clear hA hB A B) | (refine onV_if ?_ ?_; (focus (first | omega | (refine ⟨?_, ?_⟩ <;> omega))); simp only [onV_s]; (first | refine hA _ _ _ ?_ ?_ | refine hA _ _ _ ?_ (by first | exact .inl rfl | exact .inr (by decide)) ?_); (focus (simp [hbx, hme, hle1, k0, k3, k4, k5, hx, rwx, abuiltin, alenOk, alen, hlti, ti36, ti33, elemOfT, elemId, aindex, hget, asliceOk, aslice, abound, abuildSlice, afill, chunks, ard, aappend, isSS, AV.isStr, hnx, hjR, encD_take, encD_drop, encD_append, encD_sing, encD_one, ne0, ne1, ne2, ne3, ne4, jl, jmin, b1, b2, b3, hrd2, St.get_push, St.get_drop, hy, rwy, hcm, hc, hz, hz2, hji, w1] <;> omega)); clear hA hB A B))
              | (refine RQ.nl ?_; refine hk _ _ ?_; clear hk k)
              | refine WP.sr fun k hk => ?_ | refine WP.r fun k hk => ?_
              | refine WP.sd _ rfl fun k hk => ?_ | refine WP.d _ rfl fun k hk => ?_
              | (refine WP.cc fun A B hA hB => ?_; simp [hbx, hme, hle1, k0, k3, k4, k5, hx, rwx, abuiltin, alenOk, alen, hlti, ti36, ti33, elemOfT, elemId, aindex, hget, asliceOk, aslice, abound, abuildSlice, afill, chunks, ard, aappend, isSS, AV.isStr, hnx, hjR, encD_take, encD_drop, encD_append, encD_sing, encD_one, ne0, ne1, ne2, ne3, ne4, jl, jmin, b1, b2, b3, hrd2, St.get_push, St.get_drop, hy, rwy, hcm, hc, hz, hz2, hji, w1, onB_t, onB_f]; first | (refine hA ?_; clear hA hB A B) | (refine hB ?_; clear hA hB A B) | (refine onB_if (fun h => hA ?_) (fun h => hB ?_) <;> clear hA hB A B))
              | refine WP.q ?_ | refine WP.b ?_)
            refine ⟨D.length - (i + 1), by omega, i + 1, R.take j ++ [x] ++ R.drop j, rfl, by omega, by simp; omega, fun t ht => ?_, by simp; omega, hfold, by simp [k0], by simp [w1], .inr ⟨s2.nx + 1 + 1 + 1, by omega, by simp, by simp [tdr], by simp [jmin]; omega⟩⟩
            simp only [List.mem_append, List.mem_singleton] at ht
            rcases ht with (ht | rfl) | ht
            · exact hokR t (List.mem_of_mem_take ht)
            · exact ox
            · exact hokR t (List.mem_of_mem_drop ht)
      · have hji : ¬ (j : Int) < (R.length : Int) := by omega
        have hpj : posR x R = j := by
          have : R.drop j = [] := List.drop_of_length_le (by omega)
          rw [this] at hpos
          exact hpos.symm
        rw [hpj, if_neg (fun h => hj h.1)] at hstep
        rw [hstep] at hfold
        repeat' (first
          | refine WP.t ?_ | refine WP.k ?_ | refine WP.e ?_ | refine Qn ?_ | refine Qr ?_ | refine Qe ?_ | refine Bn ?_ | refine Br ?_ | refine Be ?_ | refine Bx (by decide) ?_
          | (refine RS.nl ?_; refine hk _ _ ?_; clear hk k)
          | ((first | refine RS.st fun A B hA hB => ?_ | refine RQ.st fun A B hA hB => ?_); simp [hbx, hme, hle1, k0, k3, k4, k5, hx, rwx, abuiltin, alenOk, alen, hlti, ti36, ti33, elemOfT, elemId, aindex, hget, asliceOk, aslice, abound, abuildSlice, afill, chunks, ard, aappend, isSS, AV.isStr, hnx, hjR, encD_take, encD_drop, encD_append, encD_sing, encD_one, ne0, ne1, ne2, ne3, ne4, jl, jmin, b1, b2, b3, hrd2, St.get_push, St.get_drop, hji, w1, onW_t, onW_f, onV_s]; first | ((first | refine hA _ _ _ ?_ ?_ | refine hA _ _ _ ?_ (by first | exact .inl rfl | exact .inr (by decide)) ?_); (focus (simp [hbx, hme, hle1, k0, k3, k4, k5, hx, rwx, abuiltin, alenOk, alen, hlti, ti36, ti33, elemOfT, elemId, aindex, hget, asliceOk, aslice, abound, abuildSlice, afill, chunks, ard, aappend, isSS, AV.isStr, hnx, hjR, encD_take, encD_drop, encD_append, encD_sing, encD_one, ne0, ne1, ne2, ne3, ne4, jl, jmin, b1, b2, b3, hrd2, St.get_push, St.get_drop, hji, w1] <;> omega)); clear hA hB A B) | (refine hB ?_; clear hA hB A B) | (refine onV_if ?_ ?_; (focus (first | omega | (refine ⟨?_, ?_⟩ <;> omega))); simp only [onV_s]; (first | refine hA _ _ _ ?_ ?_ | refine hA _ _ _ ?_ (by first | exact .inl rfl | exact .inr (by decide)) ?_); (focus (simp [hbx, hme, hle1, k0, k3, k4, k5, hx, rwx, abuiltin, alenOk, alen, hlti, ti36, ti33, elemOfT, elemId, aindex, hget, asliceOk, aslice, abound, abuildSlice, afill, chunks, ard, aappend, isSS, AV.isStr, hnx, hjR, encD_take, encD_drop, encD_append, encD_sing, encD_one, ne0, ne1, ne2, ne3, ne4, jl, jmin, b1, b2, b3, hrd2, St.get_push, St.get_drop, hji, w1] <;> omega)); clear hA hB A B))
          | (refine RQ.nl ?_; refine hk _ _ ?_; clear hk k)
          | refine WP.sr fun k hk => ?_ | refine WP.r fun k hk => ?_
          | refine WP.sd _ rfl fun k hk => ?_ | refine WP.d _ rfl fun k hk => ?_
          | (refine WP.cc fun A B hA hB => ?_; simp [hbx, hme, hle1, k0, k3, k4, k5, hx, rwx, abuiltin, alenOk, alen, hlti, ti36, ti33, elemOfT, elemId, aindex, hget, asliceOk, aslice, abound, abuildSlice, afill, chunks, ard, aappend, isSS, AV.isStr, hnx, hjR, encD_take, encD_drop, encD_append, encD_sing, encD_one, ne0, ne1, ne2, ne3, ne4, jl, jmin, b1, b2, b3, hrd2, St.get_push, St.get_drop, hji, w1, onB_t, onB_f]; first | (refine hA ?_; clear hA hB A B) | (refine hB ?_; clear hA hB A B) | (refine onB_if (fun h => hA ?_) (fun h => hB ?_) <;> clear hA hB A B))
          | refine WP.q ?_ | refine WP.b ?_)
        refine ⟨D.length - (i + 1), by omega, i + 1, R.take j ++ [x] ++ R.drop j, rfl, by omega, by simp; omega, fun t ht => ?_, by simp; omega, hfold, by simp [k0], by simp [w1], .inr ⟨s2.nx + 1 + 1 + 1, by omega, by simp, by simp [tdr], by simp [jmin]; omega⟩⟩
        simp only [List.mem_append, List.mem_singleton] at ht
        rcases ht with (ht | rfl) | ht
        · exact hokR t (List.mem_of_mem_take ht)
        · exact ox
        · exact hokR t (List.mem_of_mem_drop ht)
  · have hlti : ¬ (i : Int) < (D.length : Int) := by omega
    have hdr : D.drop i = [] := List.drop_of_length_le (by omega)
    rw [hdr] at hfold
    have hfold : R = refS D := hfold
    repeat' (first
      | refine WP.t ?_ | refine WP.k ?_ | refine WP.e ?_ | refine Qn ?_ | refine Qr ?_ | refine Qe ?_ | refine Bn ?_ | refine Br ?_ | refine Be ?_ | refine Bx (by decide) ?_
      | (refine RS.nl ?_; refine hk _ _ ?_; clear hk k)
      | ((first | refine RS.st fun A B hA hB => ?_ | refine RQ.st fun A B hA hB => ?_); simp [g0, g4, abuiltin, alenOk, alen, hlti, ti36, onW_t, onW_f, onV_s]; first | ((first | refine hA _ _ _ ?_ ?_ | refine hA _ _ _ ?_ (by first | exact .inl rfl | exact .inr (by decide)) ?_); (focus (simp [g0, g4, abuiltin, alenOk, alen, hlti, ti36] <;> omega)); clear hA hB A B) | (refine hB ?_; clear hA hB A B) | (refine onV_if ?_ ?_; (focus (first | omega | (refine ⟨?_, ?_⟩ <;> omega))); simp only [onV_s]; (first | refine hA _ _ _ ?_ ?_ | refine hA _ _ _ ?_ (by first | exact .inl rfl | exact .inr (by decide)) ?_); (focus (simp [g0, g4, abuiltin, alenOk, alen, hlti, ti36] <;> omega)); clear hA hB A B))
      | (refine RQ.nl ?_; refine hk _ _ ?_; clear hk k)
      | refine WP.sr fun k hk => ?_ | refine WP.r fun k hk => ?_
      | refine WP.sd _ rfl fun k hk => ?_ | refine WP.d _ rfl fun k hk => ?_
      | (refine WP.cc fun A B hA hB => ?_; simp [g0, g4, abuiltin, alenOk, alen, hlti, ti36, onB_t, onB_f]; first | (refine hA ?_; clear hA hB A B) | (refine hB ?_; clear hA hB A B) | (refine onB_if (fun h => hA ?_) (fun h => hB ?_) <;> clear hA hB A B))
      | refine WP.q ?_ | refine WP.b ?_)
    rcases hB with ⟨g3, rfl⟩ | ⟨rd, hrd, hrd2, hget, g3⟩
    · rw [← hfold]
      exact ⟨.inr rfl, .nsl, by simp [g3], .nil⟩
    · rw [← hfold]
      exact ⟨.inr rfl, .ls rd 0 R.length, by simp [g3], frzRows hget hrd⟩
end
end Go.Am
namespace Go.Am
open Go.Proofs
def pSrtR : List AV → Option AV
  | [.sl es] => match decD es with
    | some D => if D.length < 268435456 ∧ (D.all fun t => okR t) = true then some (.sl (encD (refS D))) else none
    | none => none
  | _ => none
open Classical in
noncomputable def pRowsE : List AV → Option AV
  | [.sl es, .sl ds] => match decD es with
    | some D => if es = ds ∧ D.length < 268435456 ∧ okB D = true then some (.bool true) else none
    | none => none
  | _ => none
section
variable {K : Nat} {gw : World} {s : St}
attribute [local simp] awanted xop zOf zrow aop ev T0 Slots.put Slots.set Slots.get awr WOk AV.may ofConst abinop aint isConst St.get_push St.get_put St.live AV.fit AV.cells AV.one fieldOf afieldAddr aload ofCells astore splice May eqres env_ti FinP FinZ FinW ares aresL ares1 Fns.addP Fns.add Fns.a0 Fns.a1 Fns.a2 Fns.a3 Fns.a4 abuiltin alenOk alen aindex elemOfT elemId abuildSlice afill chunks ard aappend isSS AV.isStr aminmax placesOf abuild afield aidx isStrD isStrDesc astrop aslice asliceOk abound arange anext aextract aunop aeq AV.ck avseq aveq aconv aconvert onB_t onB_f List.range_succ ti0 ti1 ti2 ti3 ti4 ti5 ti6 ti7 ti8 ti9 ti10 ti11 ti12 ti13 ti14 ti15 ti16 ti17 ti18 ti19 ti20 ti21 ti22 ti23 ti24 ti25 ti26 ti27 ti28 ti29 ti30 ti31 ti32 ti33 ti34 ti35 ti36 ti37 ti38 ti39 ti40 ti41 ti42 ti43 ti44 ti45 ti46 ti47 ti48 ti49 ti50 ti51 ti52 ti53 ti54 ti55 ti56 ti57 ti58 ti59 ti60 ti61 ti62 ti63 ti64 ti65 ti66 ti67 ti68 ti69 ti70 ti71 ti72 ti73 ti74 ti75 ti76 ti77 ti78 ti79 ti80 ti81 ti82 ti83 ti84 ti85 ti86 ti87 ti88 ti89 ti90 ti91 ti92 ti93 ti94 ti95 ti96 ti97 ti98 ti99 ti100 ti101 ti102 ti103 ti104 ti105 ti106 ti107 ti108 ti109 ti110 ti111 ti112 ti113 ti114 ti115 ti116 ti117 ti118 ti119 ti120 ti121 ti122 ti123 ti124 ti125 ti126 ti127 ti128 ti129 ti130 ti131 ti132 ti133 ti134 ti135 ti136 ti137 ti138 ti139 ti140 ti141 ti142 ti143 ti144 ti145 ti146 ti147
noncomputable def V1 : Fns := (V0.addP 50 pSrt).addP 29 pSrtR
theorem V1_ok (hK : 0 < K) (hT : Tens gw) : FOk (env K gw) V1 := by
  refine ((V0_ok hK hT).addP fun xs s r h => ?_).addP fun xs s r h => ?_
  · unfold pSrt at h
    split at h
    · split at h
      · rename_i D hD
        split at h
        · rename_i hl
          cases h
          rw [decD_eq hD]
          exact ft18 (by omega) hT D hl.1 (okB_iff.1 hl.2)
        · cases h
      · cases h
    · cases h
  · unfold pSrtR at h
    split at h
    · split at h
      · rename_i D hD
        split at h
        · rename_i hl
          cases h
          rw [decD_eq hD]
          exact ft19 hK hT D hl.1 (fun t ht => List.all_eq_true.1 hl.2 t ht)
        · cases h
      · cases h
    · cases h
set_option maxRecDepth 20000 in
set_option maxHeartbeats 16000000 in
theorem ft17 (hK : 0 < K) (hT : Tens gw) (D : Rows0) (hl : D.length < 268435456) (hok : okD D) :
    FT (env K gw) NoW 14 [.sl (encD D), .sl (encD D)] s (.bool true) s := by
  refine FT.pure (fn := Tryd.f14) (V0_ok hK hT) mixed Tryd.func14 (by kernel_rfl) (by rfl) rfl rfl (by simp) (by kernel_rfl) fun μ w => ?_
  have hsm : ∀ (x : List V) (s : St), x.length < LIM → V0 20 [.sl (x.map V.cs), .sl (x.map V.cs)] s = some (.bool true, s, []) := fun x s hx => by
    simp [V0, F17, Fns.addP, pSameT, hx]
  repeat' (first
    | refine WP.t ?_ | refine WP.k ?_ | refine WP.e ?_ | refine Qn ?_ | refine Qr ?_ | refine Qe ?_ | refine Bn ?_ | refine Br ?_ | refine Be ?_ | refine Bx (by decide) ?_
    | (refine RS.nl ?_; refine hk _ _ ?_; clear hk k)
    | ((first | refine RS.st fun A B hA hB => ?_ | refine RQ.st fun A B hA hB => ?_); simp [abuiltin, alenOk, alen, ti36, onW_t, onW_f, onV_s]; first | ((first | refine hA _ _ _ ?_ ?_ | refine hA _ _ _ ?_ (by first | exact .inl rfl | exact .inr (by decide)) ?_); (focus (simp [abuiltin, alenOk, alen, ti36] <;> omega)); clear hA hB A B) | (refine hB ?_; clear hA hB A B) | (refine onV_if ?_ ?_; (focus (first | omega | (refine ⟨?_, ?_⟩ <;> omega))); simp only [onV_s]; (first | refine hA _ _ _ ?_ ?_ | refine hA _ _ _ ?_ (by first | exact .inl rfl | exact .inr (by decide)) ?_); (focus (simp [abuiltin, alenOk, alen, ti36] <;> omega)); clear hA hB A B))
    | (refine RQ.nl ?_; refine hk _ _ ?_; clear hk k)
    | refine WP.sr fun k hk => ?_ | refine WP.r fun k hk => ?_
    | refine WP.sd _ rfl fun k hk => ?_ | refine WP.d _ rfl fun k hk => ?_
    | (refine WP.cc fun A B hA hB => ?_; simp [abuiltin, alenOk, alen, ti36, onB_t, onB_f]; first | (refine hA ?_; clear hA hB A B) | (refine hB ?_; clear hA hB A B) | (refine onB_if (fun h => hA ?_) (fun h => hB ?_) <;> clear hA hB A B))
    | refine WP.q ?_ | refine WP.b ?_)
  refine WP_loop (fun n T s' => ∃ i : Nat, n = D.length - i ∧ s' = s ∧ i ≤ D.length ∧ T.get 0 = .sl (encD D) ∧ T.get 1 = .sl (encD D) ∧ T.get 5 = .int .i64 i) D.length ⟨0, rfl, rfl, by simp, by simp, by simp, by simp⟩ ?_
  rintro n T s' ⟨i, hn, rfl, hiD, g0, g1, g5⟩
  by_cases hlt : i < D.length
  · have hlti : (i : Int) < (D.length : Int) := by omega
    have w1 : IntKind.i64.wrap ((i : Int) + 1) = (i : Int) + 1 := wrap64 (by omega) (by omega)
    have hx := encD_get hlt
    have ox := hok _ (List.getElem_mem hlt)
    generalize D[i] = x at *
    have rwx : Rw x = [.sl (x.map V.cs)] := rfl
    have hsx := fun s => hsm x s ox
    repeat' (first
      | refine WP.t ?_ | refine WP.k ?_ | refine WP.e ?_ | refine Qn ?_ | refine Qr ?_ | refine Qe ?_ | refine Bn ?_ | refine Br ?_ | refine Be ?_ | refine Bx (by decide) ?_
      | (refine RS.nl ?_; refine hk _ _ ?_; clear hk k)
      | ((first | refine RS.st fun A B hA hB => ?_ | refine RQ.st fun A B hA hB => ?_); simp [g0, g1, g5, abuiltin, alenOk, alen, hlti, hx, rwx, hsx, ti36, ti33, elemOfT, aindex, w1, aunop, onW_t, onW_f, onV_s]; first | ((first | refine hA _ _ _ ?_ ?_ | refine hA _ _ _ ?_ (by first | exact .inl rfl | exact .inr (by decide)) ?_); (focus (simp [g0, g1, g5, abuiltin, alenOk, alen, hlti, hx, rwx, hsx, ti36, ti33, elemOfT, aindex, w1, aunop] <;> omega)); clear hA hB A B) | (refine hB ?_; clear hA hB A B) | (refine onV_if ?_ ?_; (focus (first | omega | (refine ⟨?_, ?_⟩ <;> omega))); simp only [onV_s]; (first | refine hA _ _ _ ?_ ?_ | refine hA _ _ _ ?_ (by first | exact .inl rfl | exact .inr (by decide)) ?_); (focus (simp [g0, g1, g5, abuiltin, alenOk, alen, hlti, hx, rwx, hsx, ti36, ti33, elemOfT, aindex, w1, aunop] <;> omega)); clear hA hB A B))
      | (refine RQ.nl ?_; refine hk _ _ ?_; clear hk k)
      | refine WP.sr fun k hk => ?_ | refine WP.r fun k hk => ?_
      | refine WP.sd _ rfl fun k hk => ?_ | refine WP.d _ rfl fun k hk => ?_
      | (refine WP.cc fun A B hA hB => ?_; simp [g0, g1, g5, abuiltin, alenOk, alen, hlti, hx, rwx, hsx, ti36, ti33, elemOfT, aindex, w1, aunop, onB_t, onB_f]; first | (refine hA ?_; clear hA hB A B) | (refine hB ?_; clear hA hB A B) | (refine onB_if (fun h => hA ?_) (fun h => hB ?_) <;> clear hA hB A B))
      | refine WP.q ?_ | refine WP.b ?_)
    exact ⟨D.length - (i + 1), by omega, i + 1, rfl, rfl, by omega, by simp [g0], by simp [g1], by simp [w1]⟩
  · have hlti : ¬ (i : Int) < (D.length : Int) := by omega
    repeat' (first
      | refine WP.t ?_ | refine WP.k ?_ | refine WP.e ?_ | refine Qn ?_ | refine Qr ?_ | refine Qe ?_ | refine Bn ?_ | refine Br ?_ | refine Be ?_ | refine Bx (by decide) ?_
      | (refine RS.nl ?_; refine hk _ _ ?_; clear hk k)
      | ((first | refine RS.st fun A B hA hB => ?_ | refine RQ.st fun A B hA hB => ?_); simp [g0, g1, g5, abuiltin, alenOk, alen, hlti, ti36, onW_t, onW_f, onV_s]; first | ((first | refine hA _ _ _ ?_ ?_ | refine hA _ _ _ ?_ (by first | exact .inl rfl | exact .inr (by decide)) ?_); (focus (simp [g0, g1, g5, abuiltin, alenOk, alen, hlti, ti36] <;> omega)); clear hA hB A B) | (refine hB ?_; clear hA hB A B) | (refine onV_if ?_ ?_; (focus (first | omega | (refine ⟨?_, ?_⟩ <;> omega))); simp only [onV_s]; (first | refine hA _ _ _ ?_ ?_ | refine hA _ _ _ ?_ (by first | exact .inl rfl | exact .inr (by decide)) ?_); (focus (simp [g0, g1, g5, abuiltin, alenOk, alen, hlti, ti36] <;> omega)); clear hA hB A B))
      | (refine RQ.nl ?_; refine hk _ _ ?_; clear hk k)
      | refine WP.sr fun k hk => ?_ | refine WP.r fun k hk => ?_
      | refine WP.sd _ rfl fun k hk => ?_ | refine WP.d _ rfl fun k hk => ?_
      | (refine WP.cc fun A B hA hB => ?_; simp [g0, g1, g5, abuiltin, alenOk, alen, hlti, ti36, onB_t, onB_f]; first | (refine hA ?_; clear hA hB A B) | (refine hB ?_; clear hA hB A B) | (refine onB_if (fun h => hA ?_) (fun h => hB ?_) <;> clear hA hB A B))
      | refine WP.q ?_ | refine WP.b ?_)
    exact ⟨.inr rfl, rfl, by simp⟩
noncomputable def V2 : Fns := V1.addP 14 pRowsE
theorem V2_ok (hK : 0 < K) (hT : Tens gw) : FOk (env K gw) V2 := by
  refine (V1_ok hK hT).addP fun xs s r h => ?_
  unfold pRowsE at h
  split at h
  · split at h
    · rename_i D hD
      split at h
      · rename_i hl
        cases h
        rw [← hl.1, decD_eq hD]
        exact ft17 hK hT D hl.2.1 (okB_iff.1 hl.2.2)
      · cases h
    · cases h
  · cases h
end
end Go.Am
