/- Part of the proof: abstract values over the given model of Go (L3). Conditions: none of its own; see the statement in the seat's Rows text. -/
import Derived.Test.YtkfociekgeldnaaDoorAmLb
set_option linter.unusedSimpArgs false
set_option linter.unusedVariables false
set_option linter.unusedSectionVars false
namespace Go.Am
open Go.Proofs Go.Shelf
section
variable {K : Nat} {gw : World} {s : St}
attribute [local simp] awanted xop zOf zrow aop ev T0 Slots.put Slots.set Slots.get awr WOk AV.may ofConst abinop aint isConst St.get_push St.get_put St.live AV.fit AV.cells AV.one fieldOf afieldAddr aload ofCells astore splice May eqres env_ti FinP FinZ FinW ares aresL ares1 Fns.addP Fns.add Fns.a0 Fns.a1 Fns.a2 Fns.a3 Fns.a4 abuiltin alenOk alen aindex elemOfT elemId abuildSlice afill chunks ard aappend isSS AV.isStr aminmax placesOf abuild afield aidx isStrD isStrDesc astrop aslice asliceOk abound arange anext aextract aunop aeq AV.ck avseq aveq aconv aconvert onB_t onB_f List.range_succ ti0 ti1 ti2 ti3 ti4 ti5 ti6 ti7 ti8 ti9 ti10 ti11 ti12 ti13 ti14 ti15 ti16 ti17 ti18 ti19 ti20 ti21 ti22 ti23 ti24 ti25 ti26 ti27 ti28 ti29 ti30 ti31 ti32 ti33 ti34 ti35 ti36 ti37 ti38 ti39 ti40 ti41 ti42 ti43 ti44 ti45 ti46 ti47 ti48 ti49 ti50 ti51 ti52 ti53 ti54 ti55 ti56 ti57 ti58 ti59 ti60 ti61 ti62 ti63 ti64 ti65 ti66 ti67 ti68 ti69 ti70 ti71 ti72 ti73 ti74 ti75 ti76 ti77 ti78 ti79 ti80 ti81 ti82 ti83 ti84 ti85 ti86 ti87 ti88 ti89 ti90 ti91 ti92 ti93 ti94 ti95 ti96 ti97 ti98 ti99 ti100 ti101
theorem Sm.cs_len (m : Sm) : m.cs.length = 8 := rfl
set_option maxHeartbeats 4000000 in
theorem ft_IrLines (hG : GW K gw) (l : List Sm) (b : Str) (n : Nat) (hl : OkL l) (hb : b.length < LIM) (hn : n < 256) : FT (env K gw) NoW 9 [.sl (l.map Sm.cs), .str b, .int .u8 n] s (.bool true) s := by
  refine FT.pure (fn := Tryd.f9) (LB_ok hG) mixed Tryd.func9 (by kernel_rfl) (by rfl) rfl rfl (by simp) rfl fun μ w => ?_
  by_cases h190 : 190 < l.length
  · have h' : (190 : Int) < (l.length : Int) := by omega
    repeat' (first
      | refine WP.t ?_ | refine WP.k ?_ | refine WP.e ?_ | refine Qn ?_ | refine Qr ?_ | refine Qe ?_ | refine Bn ?_ | refine Br ?_ | refine Be ?_ | refine Bx (by decide) ?_
      | (refine RS.nl ?_; refine hk _ _ ?_; clear hk k)
      | (refine RS.st fun A B hA hB => ?_; simp [LB, h', h190, onW_t, onW_f, onV_s]; first | (refine hA _ _ _ ?_ ?_; (focus (first | (simp [LB, h', h190]; done) | (simp [LB, h', h190]; omega))); clear hA hB A B) | (refine hB ?_; clear hA hB A B) | (refine onV_if ?_ ?_; (focus (first | omega | (refine ⟨?_, ?_⟩ <;> omega))); simp only [onV_s]; refine hA _ _ _ ?_ ?_; (focus (first | (simp [LB, h', h190]; done) | (simp [LB, h', h190]; omega))); clear hA hB A B))
      | (refine RQ.nl ?_; refine hk _ _ ?_; clear hk k)
      | (refine RQ.st fun A B hA hB => ?_; simp [LB, h', h190, onW_t, onW_f, onV_s]; first | (refine hA _ _ _ ?_ (by first | exact .inl rfl | exact .inr (by decide)) ?_; (focus (first | (simp [LB, h', h190]; done) | (simp [LB, h', h190]; omega))); clear hA hB A B) | (refine hB ?_; clear hA hB A B) | (refine onV_if ?_ ?_; (focus (first | omega | (refine ⟨?_, ?_⟩ <;> omega))); simp only [onV_s]; refine hA _ _ _ ?_ (by first | exact .inl rfl | exact .inr (by decide)) ?_; (focus (first | (simp [LB, h', h190]; done) | (simp [LB, h', h190]; omega))); clear hA hB A B))
      | refine WP.sr fun k hk => ?_ | refine WP.r fun k hk => ?_
      | refine WP.sd _ rfl fun k hk => ?_ | refine WP.d _ rfl fun k hk => ?_
      | (refine WP.cc fun A B hA hB => ?_; simp [LB, h', h190, onB_t, onB_f]; first | (refine hA ?_; clear hA hB A B) | (refine hB ?_; clear hA hB A B) | (refine onB_if (fun h => hA ?_) (fun h => hB ?_) <;> clear hA hB A B))
      | refine WP.q ?_ | refine WP.b ?_)
    simp
  have h' : ¬ (190 : Int) < (l.length : Int) := by omega
  by_cases h500 : 500 < b.length
  · have h5 : (500 : Int) < (b.length : Int) := by omega
    repeat' (first
      | refine WP.t ?_ | refine WP.k ?_ | refine WP.e ?_ | refine Qn ?_ | refine Qr ?_ | refine Qe ?_ | refine Bn ?_ | refine Br ?_ | refine Be ?_ | refine Bx (by decide) ?_
      | (refine RS.nl ?_; refine hk _ _ ?_; clear hk k)
      | (refine RS.st fun A B hA hB => ?_; simp [LB, h', h190, h5, h500, onW_t, onW_f, onV_s]; first | (refine hA _ _ _ ?_ ?_; (focus (first | (simp [LB, h', h190, h5, h500]; done) | (simp [LB, h', h190, h5, h500]; omega))); clear hA hB A B) | (refine hB ?_; clear hA hB A B) | (refine onV_if ?_ ?_; (focus (first | omega | (refine ⟨?_, ?_⟩ <;> omega))); simp only [onV_s]; refine hA _ _ _ ?_ ?_; (focus (first | (simp [LB, h', h190, h5, h500]; done) | (simp [LB, h', h190, h5, h500]; omega))); clear hA hB A B))
      | (refine RQ.nl ?_; refine hk _ _ ?_; clear hk k)
      | (refine RQ.st fun A B hA hB => ?_; simp [LB, h', h190, h5, h500, onW_t, onW_f, onV_s]; first | (refine hA _ _ _ ?_ (by first | exact .inl rfl | exact .inr (by decide)) ?_; (focus (first | (simp [LB, h', h190, h5, h500]; done) | (simp [LB, h', h190, h5, h500]; omega))); clear hA hB A B) | (refine hB ?_; clear hA hB A B) | (refine onV_if ?_ ?_; (focus (first | omega | (refine ⟨?_, ?_⟩ <;> omega))); simp only [onV_s]; refine hA _ _ _ ?_ (by first | exact .inl rfl | exact .inr (by decide)) ?_; (focus (first | (simp [LB, h', h190, h5, h500]; done) | (simp [LB, h', h190, h5, h500]; omega))); clear hA hB A B))
      | refine WP.sr fun k hk => ?_ | refine WP.r fun k hk => ?_
      | refine WP.sd _ rfl fun k hk => ?_ | refine WP.d _ rfl fun k hk => ?_
      | (refine WP.cc fun A B hA hB => ?_; simp [LB, h', h190, h5, h500, onB_t, onB_f]; first | (refine hA ?_; clear hA hB A B) | (refine hB ?_; clear hA hB A B) | (refine onB_if (fun h => hA ?_) (fun h => hB ?_) <;> clear hA hB A B))
      | refine WP.q ?_ | refine WP.b ?_)
    simp
  have h5 : ¬ (500 : Int) < (b.length : Int) := by omega
  repeat' (first
    | refine WP.t ?_ | refine WP.k ?_ | refine WP.e ?_ | refine Qn ?_ | refine Qr ?_ | refine Qe ?_ | refine Bn ?_ | refine Br ?_ | refine Be ?_ | refine Bx (by decide) ?_
    | (refine RS.nl ?_; refine hk _ _ ?_; clear hk k)
    | (refine RS.st fun A B hA hB => ?_; simp [LB, h', h190, h5, h500, onW_t, onW_f, onV_s]; first | (refine hA _ _ _ ?_ ?_; (focus (first | (simp [LB, h', h190, h5, h500]; done) | (simp [LB, h', h190, h5, h500]; omega))); clear hA hB A B) | (refine hB ?_; clear hA hB A B) | (refine onV_if ?_ ?_; (focus (first | omega | (refine ⟨?_, ?_⟩ <;> omega))); simp only [onV_s]; refine hA _ _ _ ?_ ?_; (focus (first | (simp [LB, h', h190, h5, h500]; done) | (simp [LB, h', h190, h5, h500]; omega))); clear hA hB A B))
    | (refine RQ.nl ?_; refine hk _ _ ?_; clear hk k)
    | (refine RQ.st fun A B hA hB => ?_; simp [LB, h', h190, h5, h500, onW_t, onW_f, onV_s]; first | (refine hA _ _ _ ?_ (by first | exact .inl rfl | exact .inr (by decide)) ?_; (focus (first | (simp [LB, h', h190, h5, h500]; done) | (simp [LB, h', h190, h5, h500]; omega))); clear hA hB A B) | (refine hB ?_; clear hA hB A B) | (refine onV_if ?_ ?_; (focus (first | omega | (refine ⟨?_, ?_⟩ <;> omega))); simp only [onV_s]; refine hA _ _ _ ?_ (by first | exact .inl rfl | exact .inr (by decide)) ?_; (focus (first | (simp [LB, h', h190, h5, h500]; done) | (simp [LB, h', h190, h5, h500]; omega))); clear hA hB A B))
    | refine WP.sr fun k hk => ?_ | refine WP.r fun k hk => ?_
    | refine WP.sd _ rfl fun k hk => ?_ | refine WP.d _ rfl fun k hk => ?_
    | (refine WP.cc fun A B hA hB => ?_; simp [LB, h', h190, h5, h500, onB_t, onB_f]; first | (refine hA ?_; clear hA hB A B) | (refine hB ?_; clear hA hB A B) | (refine onB_if (fun h => hA ?_) (fun h => hB ?_) <;> clear hA hB A B))
    | refine WP.q ?_ | refine WP.b ?_)
  refine WP_loopS (fun i : Nat => [(0, .sl (l.map Sm.cs)), (1, .str b), (2, .int .u8 n), (7, .bool true), (8, .int .i64 i)]) (fun i s' => i ≤ b.length ∧ s' = s ∧ (10 : UInt8) ∉ b.take i) (fun i => b.length - i) 0 (by simp) ⟨by omega, rfl, by simp⟩ ?_
  rintro i s1 ⟨hi, rfl, hno⟩
  by_cases hi2 : i < b.length
  · have htk : b.take (i + 1) = b.take i ++ [b[i]] := List.take_succ_eq_append_getElem hi2
    have hw := wrap_succ hi2 hb
    generalize hv : b[i] = c at *
    cases hc : (c == 10)
    · skip
      repeat' (first
        | refine WP.t ?_ | refine WP.k ?_ | refine WP.e ?_ | refine Qn ?_ | refine Qr ?_ | refine Qe ?_ | refine Bn ?_ | refine Br ?_ | refine Be ?_ | refine Bx (by decide) ?_
        | (refine RS.nl ?_; refine hk _ _ ?_; clear hk k)
        | (refine RS.st fun A B hA hB => ?_; simp [hi2, hv, hw, i10, hc, onW_t, onW_f, onV_s]; first | (refine hA _ _ _ ?_ ?_; (focus (first | (simp [hi2, hv, hw, i10, hc]; done) | (simp [hi2, hv, hw, i10, hc]; omega))); clear hA hB A B) | (refine hB ?_; clear hA hB A B) | (refine onV_if ?_ ?_; (focus (first | omega | (refine ⟨?_, ?_⟩ <;> omega))); simp only [onV_s]; refine hA _ _ _ ?_ ?_; (focus (first | (simp [hi2, hv, hw, i10, hc]; done) | (simp [hi2, hv, hw, i10, hc]; omega))); clear hA hB A B))
        | (refine RQ.nl ?_; refine hk _ _ ?_; clear hk k)
        | (refine RQ.st fun A B hA hB => ?_; simp [hi2, hv, hw, i10, hc, onW_t, onW_f, onV_s]; first | (refine hA _ _ _ ?_ (by first | exact .inl rfl | exact .inr (by decide)) ?_; (focus (first | (simp [hi2, hv, hw, i10, hc]; done) | (simp [hi2, hv, hw, i10, hc]; omega))); clear hA hB A B) | (refine hB ?_; clear hA hB A B) | (refine onV_if ?_ ?_; (focus (first | omega | (refine ⟨?_, ?_⟩ <;> omega))); simp only [onV_s]; refine hA _ _ _ ?_ (by first | exact .inl rfl | exact .inr (by decide)) ?_; (focus (first | (simp [hi2, hv, hw, i10, hc]; done) | (simp [hi2, hv, hw, i10, hc]; omega))); clear hA hB A B))
        | refine WP.sr fun k hk => ?_ | refine WP.r fun k hk => ?_
        | refine WP.sd _ rfl fun k hk => ?_ | refine WP.d _ rfl fun k hk => ?_
        | (refine WP.cc fun A B hA hB => ?_; simp [hi2, hv, hw, i10, hc, onB_t, onB_f]; first | (refine hA ?_; clear hA hB A B) | (refine hB ?_; clear hA hB A B) | (refine onB_if (fun h => hA ?_) (fun h => hB ?_) <;> clear hA hB A B))
        | refine WP.q ?_ | refine WP.b ?_)
      have hne : ¬ (10 : UInt8) = c := by intro e; subst e; simp at hc
      exact ⟨i + 1, by omega, by simp, by omega, rfl, by rw [htk]; simp [hno, hne]⟩
    · skip
      repeat' (first
        | refine WP.t ?_ | refine WP.k ?_ | refine WP.e ?_ | refine Qn ?_ | refine Qr ?_ | refine Qe ?_ | refine Bn ?_ | refine Br ?_ | refine Be ?_ | refine Bx (by decide) ?_
        | (refine RS.nl ?_; refine hk _ _ ?_; clear hk k)
        | (refine RS.st fun A B hA hB => ?_; simp [hi2, hv, hw, i10, hc, onW_t, onW_f, onV_s]; first | (refine hA _ _ _ ?_ ?_; (focus (first | (simp [hi2, hv, hw, i10, hc]; done) | (simp [hi2, hv, hw, i10, hc]; omega))); clear hA hB A B) | (refine hB ?_; clear hA hB A B) | (refine onV_if ?_ ?_; (focus (first | omega | (refine ⟨?_, ?_⟩ <;> omega))); simp only [onV_s]; refine hA _ _ _ ?_ ?_; (focus (first | (simp [hi2, hv, hw, i10, hc]; done) | (simp [hi2, hv, hw, i10, hc]; omega))); clear hA hB A B))
        | (refine RQ.nl ?_; refine hk _ _ ?_; clear hk k)
        | (refine RQ.st fun A B hA hB => ?_; simp [hi2, hv, hw, i10, hc, onW_t, onW_f, onV_s]; first | (refine hA _ _ _ ?_ (by first | exact .inl rfl | exact .inr (by decide)) ?_; (focus (first | (simp [hi2, hv, hw, i10, hc]; done) | (simp [hi2, hv, hw, i10, hc]; omega))); clear hA hB A B) | (refine hB ?_; clear hA hB A B) | (refine onV_if ?_ ?_; (focus (first | omega | (refine ⟨?_, ?_⟩ <;> omega))); simp only [onV_s]; refine hA _ _ _ ?_ (by first | exact .inl rfl | exact .inr (by decide)) ?_; (focus (first | (simp [hi2, hv, hw, i10, hc]; done) | (simp [hi2, hv, hw, i10, hc]; omega))); clear hA hB A B))
        | refine WP.sr fun k hk => ?_ | refine WP.r fun k hk => ?_
        | refine WP.sd _ rfl fun k hk => ?_ | refine WP.d _ rfl fun k hk => ?_
        | (refine WP.cc fun A B hA hB => ?_; simp [hi2, hv, hw, i10, hc, onB_t, onB_f]; first | (refine hA ?_; clear hA hB A B) | (refine hB ?_; clear hA hB A B) | (refine onB_if (fun h => hA ?_) (fun h => hB ?_) <;> clear hA hB A B))
        | refine WP.q ?_ | refine WP.b ?_)
      simp
  · have hfull : b.take i = b := List.take_of_length_le (by omega)
    rw [hfull] at hno
    obtain ⟨q, hq⟩ : ∃ q : Nat, q = n % (l.length + 1) := ⟨_, rfl⟩
    have hql : q ≤ l.length := by have := Nat.mod_lt n (show 0 < l.length + 1 by omega); omega
    have w1 : IntKind.i64.wrap (n : Int) = (n : Int) := wrap64 (by omega) (by omega)
    have w2 : IntKind.i64.wrap ((l.length : Int) + 1) = (l.length : Int) + 1 := wrap64 (by omega) (by omega)
    have w3 : (n : Int).tmod ((l.length : Int) + 1) = (q : Int) := by
      have e : ((l.length : Int) + 1) = ((l.length + 1 : Nat) : Int) := by omega
      rw [e, Int.tmod_eq_emod_of_nonneg (by omega), ← Int.natCast_emod, hq]
    have w4 : IntKind.i64.wrap (q : Int) = (q : Int) := wrap64 (by omega) (by omega)
    have w5 : ¬ (l.length : Int) + 1 = 0 := by omega
    have w6 : (q : Int) ≤ (l.length : Int) := by omega
    have w7 : ¬ (l.length : Int) + 1 = -1 := by omega
    have ok1 : OkL (l.take q) := ⟨by rw [List.length_take]; have := hl.len; omega, fun m hm => hl.s m (List.mem_of_mem_take hm), fun m hm => hl.i m (List.mem_of_mem_take hm)⟩
    have ok2 : OkL (l.drop q) := ⟨by rw [List.length_drop]; have := hl.len; omega, fun m hm => hl.s m (List.mem_of_mem_drop hm), fun m hm => hl.i m (List.mem_of_mem_drop hm)⟩
    have o1 := okL_iff.2 ok1
    have o2 := okL_iff.2 ok2
    have hd1 : List.take (l.length - q) (List.drop q (l.map Sm.cs)) = List.drop q (l.map Sm.cs) := List.take_of_length_le (by simp)
    have hone := parse_bad1 b hno
    have p8 : b.length + 1 ≤ 80000 := by omega
    by_cases he : (textS (l.take q)).2 = 0
    · by_cases hf : (textS (l.drop q)).2 = 0
      · obtain ⟨x1, x2, x3⟩ := text_ok _ he
        obtain ⟨y1, y2, y3⟩ := text_ok _ hf
        have z1 := textL_le x2 ok1.i
        have z2 := textL_le y2 ok2.i
        cases hg : goodL (b ++ [10])
        · have h1 : (parseS (b ++ [10])).2.2 = 2 := by rw [hone, hg]; rfl
          have hlen1 : (l.take q).length = q := by rw [List.length_take]; omega
          have hp := parse_lines (l.take q) (l.drop q) b (by rw [List.length_take, List.length_drop]; omega) hno hg x2 y2 ok1.i
          rw [hlen1] at hp
          have e : textL (l.take q) ++ b ++ [10] ++ textL (l.drop q) = textL (l.take q) ++ (b ++ 10 :: textL (l.drop q)) := by simp
          rw [e] at hp
          generalize hA : textL (l.take q) = A at *
          generalize hB : textL (l.drop q) = B at *
          repeat' (first
            | refine WP.t ?_ | refine WP.k ?_ | refine WP.e ?_ | refine Qn ?_ | refine Qr ?_ | refine Qe ?_ | refine Bn ?_ | refine Br ?_ | refine Be ?_ | refine Bx (by decide) ?_
            | (refine RS.nl ?_; refine hk _ _ ?_; clear hk k)
            | (refine RS.st fun A B hA hB => ?_; simp [LB, LA, Sm.cs_len, hi2, w1, w2, w3, w4, w5, w6, w7, hql, o1, o2, hd1, he, hf, x3, y3, h1, hp, onW_t, onW_f, onV_s]; first | (refine hA _ _ _ ?_ ?_; (focus (first | (simp [LB, LA, Sm.cs_len, hi2, w1, w2, w3, w4, w5, w6, w7, hql, o1, o2, hd1, he, hf, x3, y3, h1, hp]; done) | (simp [LB, LA, Sm.cs_len, hi2, w1, w2, w3, w4, w5, w6, w7, hql, o1, o2, hd1, he, hf, x3, y3, h1, hp]; omega))); clear hA hB A B) | (refine hB ?_; clear hA hB A B) | (refine onV_if ?_ ?_; (focus (first | omega | (refine ⟨?_, ?_⟩ <;> omega))); simp only [onV_s]; refine hA _ _ _ ?_ ?_; (focus (first | (simp [LB, LA, Sm.cs_len, hi2, w1, w2, w3, w4, w5, w6, w7, hql, o1, o2, hd1, he, hf, x3, y3, h1, hp]; done) | (simp [LB, LA, Sm.cs_len, hi2, w1, w2, w3, w4, w5, w6, w7, hql, o1, o2, hd1, he, hf, x3, y3, h1, hp]; omega))); clear hA hB A B))
            | (refine RQ.nl ?_; refine hk _ _ ?_; clear hk k)
            | (refine RQ.st fun A B hA hB => ?_; simp [LB, LA, Sm.cs_len, hi2, w1, w2, w3, w4, w5, w6, w7, hql, o1, o2, hd1, he, hf, x3, y3, h1, hp, onW_t, onW_f, onV_s]; first | (refine hA _ _ _ ?_ (by first | exact .inl rfl | exact .inr (by decide)) ?_; (focus (first | (simp [LB, LA, Sm.cs_len, hi2, w1, w2, w3, w4, w5, w6, w7, hql, o1, o2, hd1, he, hf, x3, y3, h1, hp]; done) | (simp [LB, LA, Sm.cs_len, hi2, w1, w2, w3, w4, w5, w6, w7, hql, o1, o2, hd1, he, hf, x3, y3, h1, hp]; omega))); clear hA hB A B) | (refine hB ?_; clear hA hB A B) | (refine onV_if ?_ ?_; (focus (first | omega | (refine ⟨?_, ?_⟩ <;> omega))); simp only [onV_s]; refine hA _ _ _ ?_ (by first | exact .inl rfl | exact .inr (by decide)) ?_; (focus (first | (simp [LB, LA, Sm.cs_len, hi2, w1, w2, w3, w4, w5, w6, w7, hql, o1, o2, hd1, he, hf, x3, y3, h1, hp]; done) | (simp [LB, LA, Sm.cs_len, hi2, w1, w2, w3, w4, w5, w6, w7, hql, o1, o2, hd1, he, hf, x3, y3, h1, hp]; omega))); clear hA hB A B))
            | refine WP.sr fun k hk => ?_ | refine WP.r fun k hk => ?_
            | refine WP.sd _ rfl fun k hk => ?_ | refine WP.d _ rfl fun k hk => ?_
            | (refine WP.cc fun A B hA hB => ?_; simp [LB, LA, Sm.cs_len, hi2, w1, w2, w3, w4, w5, w6, w7, hql, o1, o2, hd1, he, hf, x3, y3, h1, hp, onB_t, onB_f]; first | (refine hA ?_; clear hA hB A B) | (refine hB ?_; clear hA hB A B) | (refine onB_if (fun h => hA ?_) (fun h => hB ?_) <;> clear hA hB A B))
            | refine WP.q ?_ | refine WP.b ?_)
          simp
        · have h1 : (parseS (b ++ [10])).2.2 = 0 := by rw [hone, hg]; rfl
          repeat' (first
            | refine WP.t ?_ | refine WP.k ?_ | refine WP.e ?_ | refine Qn ?_ | refine Qr ?_ | refine Qe ?_ | refine Bn ?_ | refine Br ?_ | refine Be ?_ | refine Bx (by decide) ?_
            | (refine RS.nl ?_; refine hk _ _ ?_; clear hk k)
            | (refine RS.st fun A B hA hB => ?_; simp [LB, LA, Sm.cs_len, hi2, w1, w2, w3, w4, w5, w6, w7, hql, o1, o2, hd1, he, hf, h1, onW_t, onW_f, onV_s]; first | (refine hA _ _ _ ?_ ?_; (focus (first | (simp [LB, LA, Sm.cs_len, hi2, w1, w2, w3, w4, w5, w6, w7, hql, o1, o2, hd1, he, hf, h1]; done) | (simp [LB, LA, Sm.cs_len, hi2, w1, w2, w3, w4, w5, w6, w7, hql, o1, o2, hd1, he, hf, h1]; omega))); clear hA hB A B) | (refine hB ?_; clear hA hB A B) | (refine onV_if ?_ ?_; (focus (first | omega | (refine ⟨?_, ?_⟩ <;> omega))); simp only [onV_s]; refine hA _ _ _ ?_ ?_; (focus (first | (simp [LB, LA, Sm.cs_len, hi2, w1, w2, w3, w4, w5, w6, w7, hql, o1, o2, hd1, he, hf, h1]; done) | (simp [LB, LA, Sm.cs_len, hi2, w1, w2, w3, w4, w5, w6, w7, hql, o1, o2, hd1, he, hf, h1]; omega))); clear hA hB A B))
            | (refine RQ.nl ?_; refine hk _ _ ?_; clear hk k)
            | (refine RQ.st fun A B hA hB => ?_; simp [LB, LA, Sm.cs_len, hi2, w1, w2, w3, w4, w5, w6, w7, hql, o1, o2, hd1, he, hf, h1, onW_t, onW_f, onV_s]; first | (refine hA _ _ _ ?_ (by first | exact .inl rfl | exact .inr (by decide)) ?_; (focus (first | (simp [LB, LA, Sm.cs_len, hi2, w1, w2, w3, w4, w5, w6, w7, hql, o1, o2, hd1, he, hf, h1]; done) | (simp [LB, LA, Sm.cs_len, hi2, w1, w2, w3, w4, w5, w6, w7, hql, o1, o2, hd1, he, hf, h1]; omega))); clear hA hB A B) | (refine hB ?_; clear hA hB A B) | (refine onV_if ?_ ?_; (focus (first | omega | (refine ⟨?_, ?_⟩ <;> omega))); simp only [onV_s]; refine hA _ _ _ ?_ (by first | exact .inl rfl | exact .inr (by decide)) ?_; (focus (first | (simp [LB, LA, Sm.cs_len, hi2, w1, w2, w3, w4, w5, w6, w7, hql, o1, o2, hd1, he, hf, h1]; done) | (simp [LB, LA, Sm.cs_len, hi2, w1, w2, w3, w4, w5, w6, w7, hql, o1, o2, hd1, he, hf, h1]; omega))); clear hA hB A B))
            | refine WP.sr fun k hk => ?_ | refine WP.r fun k hk => ?_
            | refine WP.sd _ rfl fun k hk => ?_ | refine WP.d _ rfl fun k hk => ?_
            | (refine WP.cc fun A B hA hB => ?_; simp [LB, LA, Sm.cs_len, hi2, w1, w2, w3, w4, w5, w6, w7, hql, o1, o2, hd1, he, hf, h1, onB_t, onB_f]; first | (refine hA ?_; clear hA hB A B) | (refine hB ?_; clear hA hB A B) | (refine onB_if (fun h => hA ?_) (fun h => hB ?_) <;> clear hA hB A B))
            | refine WP.q ?_ | refine WP.b ?_)
          simp
      · have q2 : ((textS (l.drop q)).2 != 0) = true := by simpa using hf
        repeat' (first
          | refine WP.t ?_ | refine WP.k ?_ | refine WP.e ?_ | refine Qn ?_ | refine Qr ?_ | refine Qe ?_ | refine Bn ?_ | refine Br ?_ | refine Be ?_ | refine Bx (by decide) ?_
          | (refine RS.nl ?_; refine hk _ _ ?_; clear hk k)
          | (refine RS.st fun A B hA hB => ?_; simp [LB, LA, Sm.cs_len, hi2, w1, w2, w3, w4, w5, w6, w7, hql, o1, o2, hd1, he, hf, q2, onW_t, onW_f, onV_s]; first | (refine hA _ _ _ ?_ ?_; (focus (first | (simp [LB, LA, Sm.cs_len, hi2, w1, w2, w3, w4, w5, w6, w7, hql, o1, o2, hd1, he, hf, q2]; done) | (simp [LB, LA, Sm.cs_len, hi2, w1, w2, w3, w4, w5, w6, w7, hql, o1, o2, hd1, he, hf, q2]; omega))); clear hA hB A B) | (refine hB ?_; clear hA hB A B) | (refine onV_if ?_ ?_; (focus (first | omega | (refine ⟨?_, ?_⟩ <;> omega))); simp only [onV_s]; refine hA _ _ _ ?_ ?_; (focus (first | (simp [LB, LA, Sm.cs_len, hi2, w1, w2, w3, w4, w5, w6, w7, hql, o1, o2, hd1, he, hf, q2]; done) | (simp [LB, LA, Sm.cs_len, hi2, w1, w2, w3, w4, w5, w6, w7, hql, o1, o2, hd1, he, hf, q2]; omega))); clear hA hB A B))
          | (refine RQ.nl ?_; refine hk _ _ ?_; clear hk k)
          | (refine RQ.st fun A B hA hB => ?_; simp [LB, LA, Sm.cs_len, hi2, w1, w2, w3, w4, w5, w6, w7, hql, o1, o2, hd1, he, hf, q2, onW_t, onW_f, onV_s]; first | (refine hA _ _ _ ?_ (by first | exact .inl rfl | exact .inr (by decide)) ?_; (focus (first | (simp [LB, LA, Sm.cs_len, hi2, w1, w2, w3, w4, w5, w6, w7, hql, o1, o2, hd1, he, hf, q2]; done) | (simp [LB, LA, Sm.cs_len, hi2, w1, w2, w3, w4, w5, w6, w7, hql, o1, o2, hd1, he, hf, q2]; omega))); clear hA hB A B) | (refine hB ?_; clear hA hB A B) | (refine onV_if ?_ ?_; (focus (first | omega | (refine ⟨?_, ?_⟩ <;> omega))); simp only [onV_s]; refine hA _ _ _ ?_ (by first | exact .inl rfl | exact .inr (by decide)) ?_; (focus (first | (simp [LB, LA, Sm.cs_len, hi2, w1, w2, w3, w4, w5, w6, w7, hql, o1, o2, hd1, he, hf, q2]; done) | (simp [LB, LA, Sm.cs_len, hi2, w1, w2, w3, w4, w5, w6, w7, hql, o1, o2, hd1, he, hf, q2]; omega))); clear hA hB A B))
          | refine WP.sr fun k hk => ?_ | refine WP.r fun k hk => ?_
          | refine WP.sd _ rfl fun k hk => ?_ | refine WP.d _ rfl fun k hk => ?_
          | (refine WP.cc fun A B hA hB => ?_; simp [LB, LA, Sm.cs_len, hi2, w1, w2, w3, w4, w5, w6, w7, hql, o1, o2, hd1, he, hf, q2, onB_t, onB_f]; first | (refine hA ?_; clear hA hB A B) | (refine hB ?_; clear hA hB A B) | (refine onB_if (fun h => hA ?_) (fun h => hB ?_) <;> clear hA hB A B))
          | refine WP.q ?_ | refine WP.b ?_)
        simp
    · have q1 : ((textS (l.take q)).2 != 0) = true := by simpa using he
      repeat' (first
        | refine WP.t ?_ | refine WP.k ?_ | refine WP.e ?_ | refine Qn ?_ | refine Qr ?_ | refine Qe ?_ | refine Bn ?_ | refine Br ?_ | refine Be ?_ | refine Bx (by decide) ?_
        | (refine RS.nl ?_; refine hk _ _ ?_; clear hk k)
        | (refine RS.st fun A B hA hB => ?_; simp [LB, LA, Sm.cs_len, hi2, w1, w2, w3, w4, w5, w6, w7, hql, o1, o2, hd1, he, q1, onW_t, onW_f, onV_s]; first | (refine hA _ _ _ ?_ ?_; (focus (first | (simp [LB, LA, Sm.cs_len, hi2, w1, w2, w3, w4, w5, w6, w7, hql, o1, o2, hd1, he, q1]; done) | (simp [LB, LA, Sm.cs_len, hi2, w1, w2, w3, w4, w5, w6, w7, hql, o1, o2, hd1, he, q1]; omega))); clear hA hB A B) | (refine hB ?_; clear hA hB A B) | (refine onV_if ?_ ?_; (focus (first | omega | (refine ⟨?_, ?_⟩ <;> omega))); simp only [onV_s]; refine hA _ _ _ ?_ ?_; (focus (first | (simp [LB, LA, Sm.cs_len, hi2, w1, w2, w3, w4, w5, w6, w7, hql, o1, o2, hd1, he, q1]; done) | (simp [LB, LA, Sm.cs_len, hi2, w1, w2, w3, w4, w5, w6, w7, hql, o1, o2, hd1, he, q1]; omega))); clear hA hB A B))
        | (refine RQ.nl ?_; refine hk _ _ ?_; clear hk k)
        | (refine RQ.st fun A B hA hB => ?_; simp [LB, LA, Sm.cs_len, hi2, w1, w2, w3, w4, w5, w6, w7, hql, o1, o2, hd1, he, q1, onW_t, onW_f, onV_s]; first | (refine hA _ _ _ ?_ (by first | exact .inl rfl | exact .inr (by decide)) ?_; (focus (first | (simp [LB, LA, Sm.cs_len, hi2, w1, w2, w3, w4, w5, w6, w7, hql, o1, o2, hd1, he, q1]; done) | (simp [LB, LA, Sm.cs_len, hi2, w1, w2, w3, w4, w5, w6, w7, hql, o1, o2, hd1, he, q1]; omega))); clear hA hB A B) | (refine hB ?_; clear hA hB A B) | (refine onV_if ?_ ?_; (focus (first | omega | (refine ⟨?_, ?_⟩ <;> omega))); simp only [onV_s]; refine hA _ _ _ ?_ (by first | exact .inl rfl | exact .inr (by decide)) ?_; (focus (first | (simp [LB, LA, Sm.cs_len, hi2, w1, w2, w3, w4, w5, w6, w7, hql, o1, o2, hd1, he, q1]; done) | (simp [LB, LA, Sm.cs_len, hi2, w1, w2, w3, w4, w5, w6, w7, hql, o1, o2, hd1, he, q1]; omega))); clear hA hB A B))
        | refine WP.sr fun k hk => ?_ | refine WP.r fun k hk => ?_
        | refine WP.sd _ rfl fun k hk => ?_ | refine WP.d _ rfl fun k hk => ?_
        | (refine WP.cc fun A B hA hB => ?_; simp [LB, LA, Sm.cs_len, hi2, w1, w2, w3, w4, w5, w6, w7, hql, o1, o2, hd1, he, q1, onB_t, onB_f]; first | (refine hA ?_; clear hA hB A B) | (refine hB ?_; clear hA hB A B) | (refine onB_if (fun h => hA ?_) (fun h => hB ?_) <;> clear hA hB A B))
        | refine WP.q ?_ | refine WP.b ?_)
      simp
end
end Go.Am
