/- Part of the proof: abstract values over the given model of Go (L1). Conditions: none of its own; see the statement in the seat's Rows text. -/
import Derived.Test.YtkfociekgeldnaaDoorAmPa
set_option linter.unusedSimpArgs false
set_option linter.unusedVariables false
set_option linter.unusedSectionVars false
namespace Go.Am
open Go.Proofs Go.Shelf
theorem chk_same : ∀ (l : List Sm) (n i : Nat), i + l.length = n → chkR n i l = chk n i l
  | [], n, i, _ => rfl
  | m :: l, n, i, h => by
    simp only [chkR, chk]
    simp only [List.length_cons] at h
    rw [chk_same l n (i + 1) (by omega)]
    cases hm : mayB m
    · rfl
    · have e : outR m i n = outS m i n := by
        unfold outR outS
        by_cases h7 : m.k = 7
        · rw [if_pos h7, if_pos (.inl h7), ← Bool.decide_or]
          refine decide_eq_decide.2 ?_
          split <;> omega
        · rw [if_neg h7]
          by_cases h8 : m.k = 8
          · rw [if_pos h8, if_pos (.inr h8)]
            have hb : m.b = 0 := by
              simp only [mayB, Bool.and_eq_true, decide_eq_true_eq] at hm
              rw [hm.2]
              simp [bareS, h8]
            rw [hb]
            refine decide_eq_decide.2 ?_
            split <;> omega
          · simp [h7, h8]
      rw [e]
structure OkL (l : List Sm) : Prop where
  len : l.length < LIM
  s : ∀ m ∈ l, okS m = true
  i : ∀ m ∈ l, okI m = true
def okL (l : List Sm) : Bool := decide (l.length < LIM) && l.all okS && l.all okI
theorem okL_iff {l : List Sm} : okL l = true ↔ OkL l := by
  simp only [okL, Bool.and_eq_true, decide_eq_true_eq, List.all_eq_true]
  exact ⟨fun h => ⟨h.1.1, h.1.2, h.2⟩, fun h => ⟨⟨h.len, h.s⟩, h.i⟩⟩
@[simp] theorem unL_SmT (l : List Sm) (k : Nat) : unL cSm (List.take k (l.map Sm.cs)) = some (l.take k) := by rw [← List.map_take]; exact unL_map cSm _
@[simp] theorem unL_SmD (l : List Sm) (k : Nat) : unL cSm (List.drop k (l.map Sm.cs)) = some (l.drop k) := by rw [← List.map_drop]; exact unL_map cSm _
section
variable {K : Nat} {gw : World} {s : St}
attribute [local simp] awanted xop zOf zrow aop ev T0 Slots.put Slots.set Slots.get awr WOk AV.may ofConst abinop aint isConst St.get_push St.get_put St.live AV.fit AV.cells AV.one fieldOf afieldAddr aload ofCells astore splice May eqres env_ti FinP FinZ FinW ares aresL ares1 Fns.addP Fns.add Fns.a0 Fns.a1 Fns.a2 Fns.a3 Fns.a4 abuiltin alenOk alen aindex elemOfT elemId abuildSlice afill chunks ard aappend isSS AV.isStr aminmax placesOf abuild afield aidx isStrD isStrDesc astrop aslice asliceOk abound arange anext aextract aunop aeq AV.ck avseq aveq aconv aconvert onB_t onB_f List.range_succ ti0 ti1 ti2 ti3 ti4 ti5 ti6 ti7 ti8 ti9 ti10 ti11 ti12 ti13 ti14 ti15 ti16 ti17 ti18 ti19 ti20 ti21 ti22 ti23 ti24 ti25 ti26 ti27 ti28 ti29 ti30 ti31 ti32 ti33 ti34 ti35 ti36 ti37 ti38 ti39 ti40 ti41 ti42 ti43 ti44 ti45 ti46 ti47 ti48 ti49 ti50 ti51 ti52 ti53 ti54 ti55 ti56 ti57 ti58 ti59 ti60 ti61 ti62 ti63 ti64 ti65 ti66 ti67 ti68 ti69 ti70 ti71 ti72 ti73 ti74 ti75 ti76 ti77 ti78 ti79 ti80 ti81 ti82 ti83 ti84 ti85 ti86 ti87 ti88 ti89 ti90 ti91 ti92 ti93 ti94 ti95 ti96 ti97 ti98 ti99 ti100 ti101
def LA : Fns := (((((((((FK.a1 11 vStr fun x => if x.length ≤ 80000 then some (.tup [.sl ((parseS x).1.map Sm.cs), .int .i64 (parseS x).2.1, .int .i64 (parseS x).2.2]) else none).a1 12 vStr fun x => if x.length ≤ 80000 then some (.tup [.sl ((parseS x).1.map Sm.cs), .int .i64 (parseS x).2.1, .int .i64 (parseS x).2.2]) else none).a1 18 (vSl cSm) fun l => if okL l = true then some (.tup [.str (textS l).1, .int .i64 (textS l).2]) else none).a1 19 (vSl cSm) fun l => if okL l = true then some (.tup [.str (textS l).1, .int .i64 (textS l).2]) else none).a1 14 (vSl cSm) fun l => if okL l = true then some (.tup [.int .i64 (chk l.length 0 l).1, .int .i64 (chk l.length 0 l).2]) else none).a1 15 (vSl cSm) fun l => if okL l = true then some (.tup [.int .i64 (chk l.length 0 l).1, .int .i64 (chk l.length 0 l).2]) else none).a1 17 (vAgg cSm) fun m => if okS m = true then some (.bool (mayB m)) else none).a1 21 vStr fun x => if x.length < LIM then some (.bool (nameB x)) else none).a2 13 (vSl cSm) (vSl cSm) fun x y => if x.length < LIM ∧ y.length < LIM then some (.bool (decide (x = y))) else none)
theorem LA_ok (hG : GW K gw) : FOk (env K gw) LA := by
  refine (((((((((FK_ok hG).a1 ?_).a1 ?_).a1 ?_).a1 ?_).a1 ?_).a1 ?_).a1 ?_).a1 ?_).a2 ?_
  · intro x s r h; split at h <;> cases h; exact ft_Parse hG x (by omega)
  · intro x s r h
    split at h <;> cases h
    obtain ⟨p, q, e⟩ := splitC_ne 10 0 x
    have hne : splitC 10 0 x ≠ [] := by rw [e]; simp
    have hE := (List.dropLast_concat_getLast hne).symm
    rw [parse_same x ‹_› _ _ hE]
    exact ft_ParseR x (by omega) _ _ hE
  · intro l s r h; split at h <;> cases h; rename_i h; have h := okL_iff.1 h; exact ft_Text hG l h.len h.s h.i
  · intro l s r h; split at h <;> cases h; rename_i h; have h := okL_iff.1 h; exact ft_TextR l h.len h.s h.i
  · intro l s r h; split at h <;> cases h; rename_i h; have h := okL_iff.1 h; exact ft_Check hG l h.len h.s
  · intro l s r h; split at h <;> cases h; rename_i h; have h := okL_iff.1 h; rw [← chk_same l l.length 0 (by simp)]; exact ft_CheckR l h.len h.s
  · intro m s r h; split at h <;> cases h; exact ft_MayR m ‹_›
  · intro x s r h; split at h <;> cases h; exact ft_Name2 x ‹_›
  · intro x y s r h
    split at h <;> cases h
    rename_i h
    have := ft_SameR (K := K) (gw := gw) (s := s) x y h.1 h.2
    exact this
abbrev exT : Str := [120, 32, 61, 32, 121, 32, 43, 32, 122, 10, 114, 101, 116, 117, 114, 110, 10]
theorem exT_parse : parseS exT = ([⟨2, [120], [121], [122], [43], 0, 0, 0⟩, ⟨9, [], [], [], [], 0, 0, 0⟩], 0, 0) := by kernel_rfl
theorem ft_awake (hG : GW K gw) : FT (env K gw) NoW 10 [] s (.bool true) s := by
  refine FT.pure (fn := Tryd.f10) (LA_ok hG) mixed Tryd.func10 (by kernel_rfl) (by rfl) rfl rfl (by simp) rfl fun μ w => ?_
  have h1 : exT.length ≤ 80000 := by decide
  have h2 : okL [⟨6, [], [120], [], [], 0, 0, 0⟩] = true := by decide
  have h3 : chk 1 0 [⟨6, [], [120], [], [], 0, 0, 0⟩] = (0, 12) := by kernel_rfl
  have e := exT_parse
  repeat' (first
    | refine WP.t ?_ | refine WP.k ?_ | refine WP.e ?_ | refine Qn ?_ | refine Qr ?_ | refine Qe ?_ | refine Bn ?_ | refine Br ?_ | refine Be ?_ | refine Bx (by decide) ?_
    | (refine RS.nl ?_; refine hk _ _ ?_; clear hk k)
    | (refine RS.st fun A B hA hB => ?_; simp [LA, h1, h2, h3, e, Sm.cs, kS, onW_t, onW_f, onV_s]; first | (refine hA _ _ _ ?_ ?_; (focus (first | (simp [LA, h1, h2, h3, e, Sm.cs, kS]; done) | (simp [LA, h1, h2, h3, e, Sm.cs, kS]; omega))); clear hA hB A B) | (refine hB ?_; clear hA hB A B) | (refine onV_if ?_ ?_; (focus (first | omega | (refine ⟨?_, ?_⟩ <;> omega))); simp only [onV_s]; refine hA _ _ _ ?_ ?_; (focus (first | (simp [LA, h1, h2, h3, e, Sm.cs, kS]; done) | (simp [LA, h1, h2, h3, e, Sm.cs, kS]; omega))); clear hA hB A B))
    | (refine RQ.nl ?_; refine hk _ _ ?_; clear hk k)
    | (refine RQ.st fun A B hA hB => ?_; simp [LA, h1, h2, h3, e, Sm.cs, kS, onW_t, onW_f, onV_s]; first | (refine hA _ _ _ ?_ (by first | exact .inl rfl | exact .inr (by decide)) ?_; (focus (first | (simp [LA, h1, h2, h3, e, Sm.cs, kS]; done) | (simp [LA, h1, h2, h3, e, Sm.cs, kS]; omega))); clear hA hB A B) | (refine hB ?_; clear hA hB A B) | (refine onV_if ?_ ?_; (focus (first | omega | (refine ⟨?_, ?_⟩ <;> omega))); simp only [onV_s]; refine hA _ _ _ ?_ (by first | exact .inl rfl | exact .inr (by decide)) ?_; (focus (first | (simp [LA, h1, h2, h3, e, Sm.cs, kS]; done) | (simp [LA, h1, h2, h3, e, Sm.cs, kS]; omega))); clear hA hB A B))
    | refine WP.sr fun k hk => ?_ | refine WP.r fun k hk => ?_
    | refine WP.sd _ rfl fun k hk => ?_ | refine WP.d _ rfl fun k hk => ?_
    | (refine WP.cc fun A B hA hB => ?_; simp [LA, h1, h2, h3, e, Sm.cs, kS, onB_t, onB_f]; first | (refine hA ?_; clear hA hB A B) | (refine hB ?_; clear hA hB A B) | (refine onB_if (fun h => hA ?_) (fun h => hB ?_) <;> clear hA hB A B))
    | refine WP.q ?_ | refine WP.b ?_)
  simp
def LB : Fns := LA.a0 10 (.bool true)
theorem LB_ok (hG : GW K gw) : FOk (env K gw) LB := (LA_ok hG).a0 fun s => ft_awake hG
theorem ft_IrTexts (hG : GW K gw) (l : List Sm) (x : Str) (hl : OkL l) (hx : x.length < LIM) : FT (env K gw) NoW 6 [.sl (l.map Sm.cs), .str x] s (.bool true) s := by
  refine FT.pure (fn := Tryd.f6) (LB_ok hG) mixed Tryd.func6 (by kernel_rfl) (by rfl) rfl rfl (by simp) rfl fun μ w => ?_
  by_cases h300 : 300 < l.length
  · have h' : (300 : Int) < (l.length : Int) := by omega
    repeat' (first
      | refine WP.t ?_ | refine WP.k ?_ | refine WP.e ?_ | refine Qn ?_ | refine Qr ?_ | refine Qe ?_ | refine Bn ?_ | refine Br ?_ | refine Be ?_ | refine Bx (by decide) ?_
      | (refine RS.nl ?_; refine hk _ _ ?_; clear hk k)
      | (refine RS.st fun A B hA hB => ?_; simp [LB, h', h300, onW_t, onW_f, onV_s]; first | (refine hA _ _ _ ?_ ?_; (focus (first | (simp [LB, h', h300]; done) | (simp [LB, h', h300]; omega))); clear hA hB A B) | (refine hB ?_; clear hA hB A B) | (refine onV_if ?_ ?_; (focus (first | omega | (refine ⟨?_, ?_⟩ <;> omega))); simp only [onV_s]; refine hA _ _ _ ?_ ?_; (focus (first | (simp [LB, h', h300]; done) | (simp [LB, h', h300]; omega))); clear hA hB A B))
      | (refine RQ.nl ?_; refine hk _ _ ?_; clear hk k)
      | (refine RQ.st fun A B hA hB => ?_; simp [LB, h', h300, onW_t, onW_f, onV_s]; first | (refine hA _ _ _ ?_ (by first | exact .inl rfl | exact .inr (by decide)) ?_; (focus (first | (simp [LB, h', h300]; done) | (simp [LB, h', h300]; omega))); clear hA hB A B) | (refine hB ?_; clear hA hB A B) | (refine onV_if ?_ ?_; (focus (first | omega | (refine ⟨?_, ?_⟩ <;> omega))); simp only [onV_s]; refine hA _ _ _ ?_ (by first | exact .inl rfl | exact .inr (by decide)) ?_; (focus (first | (simp [LB, h', h300]; done) | (simp [LB, h', h300]; omega))); clear hA hB A B))
      | refine WP.sr fun k hk => ?_ | refine WP.r fun k hk => ?_
      | refine WP.sd _ rfl fun k hk => ?_ | refine WP.d _ rfl fun k hk => ?_
      | (refine WP.cc fun A B hA hB => ?_; simp [LB, h', h300, onB_t, onB_f]; first | (refine hA ?_; clear hA hB A B) | (refine hB ?_; clear hA hB A B) | (refine onB_if (fun h => hA ?_) (fun h => hB ?_) <;> clear hA hB A B))
      | refine WP.q ?_ | refine WP.b ?_)
    simp
  have h' : ¬ (300 : Int) < (l.length : Int) := by omega
  repeat' (first
    | refine WP.t ?_ | refine WP.k ?_ | refine WP.e ?_ | refine Qn ?_ | refine Qr ?_ | refine Qe ?_ | refine Bn ?_ | refine Br ?_ | refine Be ?_ | refine Bx (by decide) ?_
    | (refine RS.nl ?_; refine hk _ _ ?_; clear hk k)
    | (refine RS.st fun A B hA hB => ?_; simp [LB, h', h300, onW_t, onW_f, onV_s]; first | (refine hA _ _ _ ?_ ?_; (focus (first | (simp [LB, h', h300]; done) | (simp [LB, h', h300]; omega))); clear hA hB A B) | (refine hB ?_; clear hA hB A B) | (refine onV_if ?_ ?_; (focus (first | omega | (refine ⟨?_, ?_⟩ <;> omega))); simp only [onV_s]; refine hA _ _ _ ?_ ?_; (focus (first | (simp [LB, h', h300]; done) | (simp [LB, h', h300]; omega))); clear hA hB A B))
    | (refine RQ.nl ?_; refine hk _ _ ?_; clear hk k)
    | (refine RQ.st fun A B hA hB => ?_; simp [LB, h', h300, onW_t, onW_f, onV_s]; first | (refine hA _ _ _ ?_ (by first | exact .inl rfl | exact .inr (by decide)) ?_; (focus (first | (simp [LB, h', h300]; done) | (simp [LB, h', h300]; omega))); clear hA hB A B) | (refine hB ?_; clear hA hB A B) | (refine onV_if ?_ ?_; (focus (first | omega | (refine ⟨?_, ?_⟩ <;> omega))); simp only [onV_s]; refine hA _ _ _ ?_ (by first | exact .inl rfl | exact .inr (by decide)) ?_; (focus (first | (simp [LB, h', h300]; done) | (simp [LB, h', h300]; omega))); clear hA hB A B))
    | refine WP.sr fun k hk => ?_ | refine WP.r fun k hk => ?_
    | refine WP.sd _ rfl fun k hk => ?_ | refine WP.d _ rfl fun k hk => ?_
    | (refine WP.cc fun A B hA hB => ?_; simp [LB, h', h300, onB_t, onB_f]; first | (refine hA ?_; clear hA hB A B) | (refine hB ?_; clear hA hB A B) | (refine onB_if (fun h => hA ?_) (fun h => hB ?_) <;> clear hA hB A B))
    | refine WP.q ?_ | refine WP.b ?_)
  refine WP_loopS (fun i : Nat => [(0, .sl (l.map Sm.cs)), (1, .str x), (5, .bool true), (6, .int .i64 i)]) (fun i s' => i ≤ l.length ∧ s' = s) (fun i => l.length - i) 0 (by simp) ⟨by omega, rfl⟩ ?_
  rintro i _ ⟨hi, rfl⟩
  have hok := okL_iff.2 hl
  by_cases hi2 : i < l.length
  · have ha : l[i]? = some l[i] := List.getElem?_eq_getElem hi2
    have hm := hl.s l[i] (List.getElem_mem hi2)
    have hw := wrap_succ hi2 hl.len
    generalize hv : l[i] = m at *
    have hcs : m.cs = [.int .i64 m.k, .str m.x, .str m.y, .str m.z, .str m.o, .int .i64 m.n, .int .i64 m.a, .int .i64 m.b] := rfl
    have heta : Sm.mk m.k m.x m.y m.z m.o m.n m.a m.b = m := rfl
    repeat' (first
      | refine WP.t ?_ | refine WP.k ?_ | refine WP.e ?_ | refine Qn ?_ | refine Qr ?_ | refine Qe ?_ | refine Bn ?_ | refine Br ?_ | refine Be ?_ | refine Bx (by decide) ?_
      | (refine RS.nl ?_; refine hk _ _ ?_; clear hk k)
      | (refine RS.st fun A B hA hB => ?_; simp [LB, LA, FK, FJ, FI, FH, FG, hi2, ha, hv, hm, hcs, heta, hw, onW_t, onW_f, onV_s]; first | (refine hA _ _ _ ?_ ?_; (focus (first | (simp [LB, LA, FK, FJ, FI, FH, FG, hi2, ha, hv, hm, hcs, heta, hw]; done) | (simp [LB, LA, FK, FJ, FI, FH, FG, hi2, ha, hv, hm, hcs, heta, hw]; omega))); clear hA hB A B) | (refine hB ?_; clear hA hB A B) | (refine onV_if ?_ ?_; (focus (first | omega | (refine ⟨?_, ?_⟩ <;> omega))); simp only [onV_s]; refine hA _ _ _ ?_ ?_; (focus (first | (simp [LB, LA, FK, FJ, FI, FH, FG, hi2, ha, hv, hm, hcs, heta, hw]; done) | (simp [LB, LA, FK, FJ, FI, FH, FG, hi2, ha, hv, hm, hcs, heta, hw]; omega))); clear hA hB A B))
      | (refine RQ.nl ?_; refine hk _ _ ?_; clear hk k)
      | (refine RQ.st fun A B hA hB => ?_; simp [LB, LA, FK, FJ, FI, FH, FG, hi2, ha, hv, hm, hcs, heta, hw, onW_t, onW_f, onV_s]; first | (refine hA _ _ _ ?_ (by first | exact .inl rfl | exact .inr (by decide)) ?_; (focus (first | (simp [LB, LA, FK, FJ, FI, FH, FG, hi2, ha, hv, hm, hcs, heta, hw]; done) | (simp [LB, LA, FK, FJ, FI, FH, FG, hi2, ha, hv, hm, hcs, heta, hw]; omega))); clear hA hB A B) | (refine hB ?_; clear hA hB A B) | (refine onV_if ?_ ?_; (focus (first | omega | (refine ⟨?_, ?_⟩ <;> omega))); simp only [onV_s]; refine hA _ _ _ ?_ (by first | exact .inl rfl | exact .inr (by decide)) ?_; (focus (first | (simp [LB, LA, FK, FJ, FI, FH, FG, hi2, ha, hv, hm, hcs, heta, hw]; done) | (simp [LB, LA, FK, FJ, FI, FH, FG, hi2, ha, hv, hm, hcs, heta, hw]; omega))); clear hA hB A B))
      | refine WP.sr fun k hk => ?_ | refine WP.r fun k hk => ?_
      | refine WP.sd _ rfl fun k hk => ?_ | refine WP.d _ rfl fun k hk => ?_
      | (refine WP.cc fun A B hA hB => ?_; simp [LB, LA, FK, FJ, FI, FH, FG, hi2, ha, hv, hm, hcs, heta, hw, onB_t, onB_f]; first | (refine hA ?_; clear hA hB A B) | (refine hB ?_; clear hA hB A B) | (refine onB_if (fun h => hA ?_) (fun h => hB ?_) <;> clear hA hB A B))
      | refine WP.q ?_ | refine WP.b ?_)
    exact ⟨i + 1, by omega, by simp, by omega, rfl⟩
  · skip
    repeat' (first
      | refine WP.t ?_ | refine WP.k ?_ | refine WP.e ?_ | refine Qn ?_ | refine Qr ?_ | refine Qe ?_ | refine Bn ?_ | refine Br ?_ | refine Be ?_ | refine Bx (by decide) ?_
      | (refine RS.nl ?_; refine hk _ _ ?_; clear hk k)
      | (refine RS.st fun A B hA hB => ?_; simp [LB, LA, FK, FJ, FI, FH, FG, FF, FE, FD, hi2, hok, hx, onW_t, onW_f, onV_s]; first | (refine hA _ _ _ ?_ ?_; (focus (first | (simp [LB, LA, FK, FJ, FI, FH, FG, FF, FE, FD, hi2, hok, hx]; done) | (simp [LB, LA, FK, FJ, FI, FH, FG, FF, FE, FD, hi2, hok, hx]; omega))); clear hA hB A B) | (refine hB ?_; clear hA hB A B) | (refine onV_if ?_ ?_; (focus (first | omega | (refine ⟨?_, ?_⟩ <;> omega))); simp only [onV_s]; refine hA _ _ _ ?_ ?_; (focus (first | (simp [LB, LA, FK, FJ, FI, FH, FG, FF, FE, FD, hi2, hok, hx]; done) | (simp [LB, LA, FK, FJ, FI, FH, FG, FF, FE, FD, hi2, hok, hx]; omega))); clear hA hB A B))
      | (refine RQ.nl ?_; refine hk _ _ ?_; clear hk k)
      | (refine RQ.st fun A B hA hB => ?_; simp [LB, LA, FK, FJ, FI, FH, FG, FF, FE, FD, hi2, hok, hx, onW_t, onW_f, onV_s]; first | (refine hA _ _ _ ?_ (by first | exact .inl rfl | exact .inr (by decide)) ?_; (focus (first | (simp [LB, LA, FK, FJ, FI, FH, FG, FF, FE, FD, hi2, hok, hx]; done) | (simp [LB, LA, FK, FJ, FI, FH, FG, FF, FE, FD, hi2, hok, hx]; omega))); clear hA hB A B) | (refine hB ?_; clear hA hB A B) | (refine onV_if ?_ ?_; (focus (first | omega | (refine ⟨?_, ?_⟩ <;> omega))); simp only [onV_s]; refine hA _ _ _ ?_ (by first | exact .inl rfl | exact .inr (by decide)) ?_; (focus (first | (simp [LB, LA, FK, FJ, FI, FH, FG, FF, FE, FD, hi2, hok, hx]; done) | (simp [LB, LA, FK, FJ, FI, FH, FG, FF, FE, FD, hi2, hok, hx]; omega))); clear hA hB A B))
      | refine WP.sr fun k hk => ?_ | refine WP.r fun k hk => ?_
      | refine WP.sd _ rfl fun k hk => ?_ | refine WP.d _ rfl fun k hk => ?_
      | (refine WP.cc fun A B hA hB => ?_; simp [LB, LA, FK, FJ, FI, FH, FG, FF, FE, FD, hi2, hok, hx, onB_t, onB_f]; first | (refine hA ?_; clear hA hB A B) | (refine hB ?_; clear hA hB A B) | (refine onB_if (fun h => hA ?_) (fun h => hB ?_) <;> clear hA hB A B))
      | refine WP.q ?_ | refine WP.b ?_)
    simp
theorem ft_IrParses (hG : GW K gw) (x : Str) (hx : x.length < LIM) : FT (env K gw) NoW 3 [.str x] s (.bool true) s := by
  refine FT.pure (fn := Tryd.f3) (LB_ok hG) mixed Tryd.func3 (by kernel_rfl) (by rfl) rfl rfl (by simp) rfl fun μ w => ?_
  by_cases h : 20000 < x.length
  · have h' : (20000 : Int) < (x.length : Int) := by omega
    repeat' (first
      | refine WP.t ?_ | refine WP.k ?_ | refine WP.e ?_ | refine Qn ?_ | refine Qr ?_ | refine Qe ?_ | refine Bn ?_ | refine Br ?_ | refine Be ?_ | refine Bx (by decide) ?_
      | (refine RS.nl ?_; refine hk _ _ ?_; clear hk k)
      | (refine RS.st fun A B hA hB => ?_; simp [LB, h', h, onW_t, onW_f, onV_s]; first | (refine hA _ _ _ ?_ ?_; (focus (first | (simp [LB, h', h]; done) | (simp [LB, h', h]; omega))); clear hA hB A B) | (refine hB ?_; clear hA hB A B) | (refine onV_if ?_ ?_; (focus (first | omega | (refine ⟨?_, ?_⟩ <;> omega))); simp only [onV_s]; refine hA _ _ _ ?_ ?_; (focus (first | (simp [LB, h', h]; done) | (simp [LB, h', h]; omega))); clear hA hB A B))
      | (refine RQ.nl ?_; refine hk _ _ ?_; clear hk k)
      | (refine RQ.st fun A B hA hB => ?_; simp [LB, h', h, onW_t, onW_f, onV_s]; first | (refine hA _ _ _ ?_ (by first | exact .inl rfl | exact .inr (by decide)) ?_; (focus (first | (simp [LB, h', h]; done) | (simp [LB, h', h]; omega))); clear hA hB A B) | (refine hB ?_; clear hA hB A B) | (refine onV_if ?_ ?_; (focus (first | omega | (refine ⟨?_, ?_⟩ <;> omega))); simp only [onV_s]; refine hA _ _ _ ?_ (by first | exact .inl rfl | exact .inr (by decide)) ?_; (focus (first | (simp [LB, h', h]; done) | (simp [LB, h', h]; omega))); clear hA hB A B))
      | refine WP.sr fun k hk => ?_ | refine WP.r fun k hk => ?_
      | refine WP.sd _ rfl fun k hk => ?_ | refine WP.d _ rfl fun k hk => ?_
      | (refine WP.cc fun A B hA hB => ?_; simp [LB, h', h, onB_t, onB_f]; first | (refine hA ?_; clear hA hB A B) | (refine hB ?_; clear hA hB A B) | (refine onB_if (fun h => hA ?_) (fun h => hB ?_) <;> clear hA hB A B))
      | refine WP.q ?_ | refine WP.b ?_)
    simp
  have h' : ¬ (20000 : Int) < (x.length : Int) := by omega
  have h8 : x.length ≤ 80000 := by omega
  have hpl : (parseS x).1.length < LIM := by
    have : (parseS x).1.length ≤ 200 := by
      unfold parseS
      split
      · simp
      · split
        · simp; omega
        · simp
    simp only [LIM]; omega
  repeat' (first
    | refine WP.t ?_ | refine WP.k ?_ | refine WP.e ?_ | refine Qn ?_ | refine Qr ?_ | refine Qe ?_ | refine Bn ?_ | refine Br ?_ | refine Be ?_ | refine Bx (by decide) ?_
    | (refine RS.nl ?_; refine hk _ _ ?_; clear hk k)
    | (refine RS.st fun A B hA hB => ?_; simp [LB, LA, h', h8, hpl, onW_t, onW_f, onV_s]; first | (refine hA _ _ _ ?_ ?_; (focus (first | (simp [LB, LA, h', h8, hpl]; done) | (simp [LB, LA, h', h8, hpl]; omega))); clear hA hB A B) | (refine hB ?_; clear hA hB A B) | (refine onV_if ?_ ?_; (focus (first | omega | (refine ⟨?_, ?_⟩ <;> omega))); simp only [onV_s]; refine hA _ _ _ ?_ ?_; (focus (first | (simp [LB, LA, h', h8, hpl]; done) | (simp [LB, LA, h', h8, hpl]; omega))); clear hA hB A B))
    | (refine RQ.nl ?_; refine hk _ _ ?_; clear hk k)
    | (refine RQ.st fun A B hA hB => ?_; simp [LB, LA, h', h8, hpl, onW_t, onW_f, onV_s]; first | (refine hA _ _ _ ?_ (by first | exact .inl rfl | exact .inr (by decide)) ?_; (focus (first | (simp [LB, LA, h', h8, hpl]; done) | (simp [LB, LA, h', h8, hpl]; omega))); clear hA hB A B) | (refine hB ?_; clear hA hB A B) | (refine onV_if ?_ ?_; (focus (first | omega | (refine ⟨?_, ?_⟩ <;> omega))); simp only [onV_s]; refine hA _ _ _ ?_ (by first | exact .inl rfl | exact .inr (by decide)) ?_; (focus (first | (simp [LB, LA, h', h8, hpl]; done) | (simp [LB, LA, h', h8, hpl]; omega))); clear hA hB A B))
    | refine WP.sr fun k hk => ?_ | refine WP.r fun k hk => ?_
    | refine WP.sd _ rfl fun k hk => ?_ | refine WP.d _ rfl fun k hk => ?_
    | (refine WP.cc fun A B hA hB => ?_; simp [LB, LA, h', h8, hpl, onB_t, onB_f]; first | (refine hA ?_; clear hA hB A B) | (refine hB ?_; clear hA hB A B) | (refine onB_if (fun h => hA ?_) (fun h => hB ?_) <;> clear hA hB A B))
    | refine WP.q ?_ | refine WP.b ?_)
  simp
theorem ft_IrChecks (hG : GW K gw) (l : List Sm) (hl : OkL l) : FT (env K gw) NoW 4 [.sl (l.map Sm.cs)] s (.bool true) s := by
  refine FT.pure (fn := Tryd.f4) (LB_ok hG) mixed Tryd.func4 (by kernel_rfl) (by rfl) rfl rfl (by simp) rfl fun μ w => ?_
  have hok := okL_iff.2 hl
  by_cases h300 : 300 < l.length
  · have h' : (300 : Int) < (l.length : Int) := by omega
    repeat' (first
      | refine WP.t ?_ | refine WP.k ?_ | refine WP.e ?_ | refine Qn ?_ | refine Qr ?_ | refine Qe ?_ | refine Bn ?_ | refine Br ?_ | refine Be ?_ | refine Bx (by decide) ?_
      | (refine RS.nl ?_; refine hk _ _ ?_; clear hk k)
      | (refine RS.st fun A B hA hB => ?_; simp [LB, h', h300, onW_t, onW_f, onV_s]; first | (refine hA _ _ _ ?_ ?_; (focus (first | (simp [LB, h', h300]; done) | (simp [LB, h', h300]; omega))); clear hA hB A B) | (refine hB ?_; clear hA hB A B) | (refine onV_if ?_ ?_; (focus (first | omega | (refine ⟨?_, ?_⟩ <;> omega))); simp only [onV_s]; refine hA _ _ _ ?_ ?_; (focus (first | (simp [LB, h', h300]; done) | (simp [LB, h', h300]; omega))); clear hA hB A B))
      | (refine RQ.nl ?_; refine hk _ _ ?_; clear hk k)
      | (refine RQ.st fun A B hA hB => ?_; simp [LB, h', h300, onW_t, onW_f, onV_s]; first | (refine hA _ _ _ ?_ (by first | exact .inl rfl | exact .inr (by decide)) ?_; (focus (first | (simp [LB, h', h300]; done) | (simp [LB, h', h300]; omega))); clear hA hB A B) | (refine hB ?_; clear hA hB A B) | (refine onV_if ?_ ?_; (focus (first | omega | (refine ⟨?_, ?_⟩ <;> omega))); simp only [onV_s]; refine hA _ _ _ ?_ (by first | exact .inl rfl | exact .inr (by decide)) ?_; (focus (first | (simp [LB, h', h300]; done) | (simp [LB, h', h300]; omega))); clear hA hB A B))
      | refine WP.sr fun k hk => ?_ | refine WP.r fun k hk => ?_
      | refine WP.sd _ rfl fun k hk => ?_ | refine WP.d _ rfl fun k hk => ?_
      | (refine WP.cc fun A B hA hB => ?_; simp [LB, h', h300, onB_t, onB_f]; first | (refine hA ?_; clear hA hB A B) | (refine hB ?_; clear hA hB A B) | (refine onB_if (fun h => hA ?_) (fun h => hB ?_) <;> clear hA hB A B))
      | refine WP.q ?_ | refine WP.b ?_)
    simp
  have h' : ¬ (300 : Int) < (l.length : Int) := by omega
  repeat' (first
    | refine WP.t ?_ | refine WP.k ?_ | refine WP.e ?_ | refine Qn ?_ | refine Qr ?_ | refine Qe ?_ | refine Bn ?_ | refine Br ?_ | refine Be ?_ | refine Bx (by decide) ?_
    | (refine RS.nl ?_; refine hk _ _ ?_; clear hk k)
    | (refine RS.st fun A B hA hB => ?_; simp [LB, LA, h', h300, hok, onW_t, onW_f, onV_s]; first | (refine hA _ _ _ ?_ ?_; (focus (first | (simp [LB, LA, h', h300, hok]; done) | (simp [LB, LA, h', h300, hok]; omega))); clear hA hB A B) | (refine hB ?_; clear hA hB A B) | (refine onV_if ?_ ?_; (focus (first | omega | (refine ⟨?_, ?_⟩ <;> omega))); simp only [onV_s]; refine hA _ _ _ ?_ ?_; (focus (first | (simp [LB, LA, h', h300, hok]; done) | (simp [LB, LA, h', h300, hok]; omega))); clear hA hB A B))
    | (refine RQ.nl ?_; refine hk _ _ ?_; clear hk k)
    | (refine RQ.st fun A B hA hB => ?_; simp [LB, LA, h', h300, hok, onW_t, onW_f, onV_s]; first | (refine hA _ _ _ ?_ (by first | exact .inl rfl | exact .inr (by decide)) ?_; (focus (first | (simp [LB, LA, h', h300, hok]; done) | (simp [LB, LA, h', h300, hok]; omega))); clear hA hB A B) | (refine hB ?_; clear hA hB A B) | (refine onV_if ?_ ?_; (focus (first | omega | (refine ⟨?_, ?_⟩ <;> omega))); simp only [onV_s]; refine hA _ _ _ ?_ (by first | exact .inl rfl | exact .inr (by decide)) ?_; (focus (first | (simp [LB, LA, h', h300, hok]; done) | (simp [LB, LA, h', h300, hok]; omega))); clear hA hB A B))
    | refine WP.sr fun k hk => ?_ | refine WP.r fun k hk => ?_
    | refine WP.sd _ rfl fun k hk => ?_ | refine WP.d _ rfl fun k hk => ?_
    | (refine WP.cc fun A B hA hB => ?_; simp [LB, LA, h', h300, hok, onB_t, onB_f]; first | (refine hA ?_; clear hA hB A B) | (refine hB ?_; clear hA hB A B) | (refine onB_if (fun h => hA ?_) (fun h => hB ?_) <;> clear hA hB A B))
    | refine WP.q ?_ | refine WP.b ?_)
  simp
end
end Go.Am
