/- Part of the proof: abstract values over the given model of Go (U12). Conditions: none of its own; see the statement in the seat's Rows text. -/
import Derived.Test.YtkfociekgeldnaaDoorAmUc
set_option linter.unusedSimpArgs false
set_option linter.unusedVariables false
set_option linter.unusedSectionVars false
namespace Go.Am
open Go.Proofs Go.Shelf
section
variable {K : Nat} {gw : World} {s : St}
attribute [local simp] awanted xop zOf zrow aop ev T0 Slots.put Slots.set Slots.get awr WOk AV.may ofConst abinop aint isConst St.get_push St.get_put St.live AV.fit AV.cells AV.one fieldOf afieldAddr aload ofCells astore splice May eqres env_ti FinP FinZ FinW ares aresL ares1 Fns.addP Fns.add Fns.a0 Fns.a1 Fns.a2 Fns.a3 Fns.a4 abuiltin alenOk alen aindex elemOfT elemId abuildSlice afill chunks ard aappend isSS AV.isStr aminmax placesOf abuild afield aidx isStrD isStrDesc astrop aslice asliceOk abound arange anext aextract aunop aeq AV.ck avseq aveq aconv aconvert onB_t onB_f List.range_succ ti0 ti1 ti2 ti3 ti4 ti5 ti6 ti7 ti8 ti9 ti10 ti11 ti12 ti13 ti14 ti15 ti16 ti17 ti18 ti19 ti20 ti21 ti22 ti23 ti24 ti25 ti26 ti27 ti28 ti29 ti30 ti31 ti32 ti33 ti34 ti35 ti36 ti37 ti38 ti39 ti40 ti41 ti42 ti43 ti44 ti45 ti46 ti47 ti48 ti49 ti50 ti51 ti52 ti53 ti54 ti55 ti56 ti57 ti58 ti59 ti60 ti61 ti62 ti63 ti64 ti65 ti66 ti67 ti68 ti69 ti70 ti71 ti72 ti73 ti74 ti75 ti76 ti77 ti78 ti79 ti80 ti81 ti82 ti83 ti84 ti85 ti86 ti87 ti88 ti89 ti90 ti91 ti92 ti93 ti94 ti95 ti96 ti97 ti98 ti99 ti100 ti101
def allShort (w : List Str) : Bool := w.all fun x => decide (x.length ≤ 100000000)
theorem short_all {w : List Str} (h : allShort w = true) : ∀ x ∈ w, x.length ≤ 100000000 := fun x hx => by simpa using List.all_eq_true.1 h x hx
theorem all_short {w : List Str} (h : ∀ x ∈ w, x.length ≤ 100000000) : allShort w = true := List.all_eq_true.2 fun x hx => by simpa using h x hx
def FK : Fns := FJ.a1 23 (vSl cStr) fun w => if w.length < LIM ∧ allShort w = true then some (.agg (toldS w).cs) else none
theorem FK_ok (hG : GW K gw) : FOk (env K gw) FK := (FJ_ok hG).a1 fun w s r h => by split at h <;> cases h; rename_i h; exact ft_told hG w h.1 (short_all h.2)
set_option maxHeartbeats 2000000 in
theorem ft_Parse (hG : GW K gw) (x : Str) (hl0 : x.length ≤ 100000) : FT (env K gw) NoW 11 [.str x] s (.tup [.sl ((parseS x).1.map Sm.cs), .int .i64 (parseS x).2.1, .int .i64 (parseS x).2.2]) s := by
  refine FT.data (fn := Tryd.f11) (FK_ok hG) mixed Tryd.func11 (by kernel_rfl) (by rfl) rfl rfl (by simp) rfl fun μ w => ?_
  have hl : x.length < 4294967281 := by omega
  have hXl := splitC_len 10 1 x
  have hXm := splitC_mem 10 1 x
  have hLe0 : linesOf x = if (splitC 10 1 x).getLast? = some [] then (splitC 10 1 x).dropLast else splitC 10 1 x := rfl
  obtain ⟨y, t, hne⟩ := splitC_ne 10 1 x
  have hX0 : splitC 10 1 x ≠ [] := by rw [hne]; simp
  generalize hX : splitC 10 1 x = X at *
  obtain ⟨Y, z, hYz⟩ : ∃ Y z, X = Y ++ [z] := ⟨X.dropLast, X.getLast hX0, (List.dropLast_concat_getLast hX0).symm⟩
  have hlen : X.length = Y.length + 1 := by simp [hYz]
  have hwn : IntKind.i64.wrap (Y.length : Int) = (Y.length : Int) := wrap64 (by omega) (by omega)
  have hz : X[Y.length]? = some z := by simp [hYz]
  have htake : List.take Y.length (List.map sc X) = List.map sc Y := by simp [hYz]
  have hnx : ¬ X.length ≤ Y.length := by omega
  have hlt : Y.length < X.length := by omega
  have hii : (Y.length : Int) < (Y.length : Int) + 1 := by omega
  have hij : (Y.length : Int) ≤ (Y.length : Int) + 1 := by omega
  have hzz : X[Y.length]'hlt = z := by simp [hYz]
  by_cases hz0 : z = []
  · subst hz0
    have hLe : linesOf x = Y := by rw [hLe0, hYz]; simp
    have hLl : Y.length ≤ 100001 := by omega
    have hLx : ∀ y ∈ Y, y.length ≤ 100000 := fun y hy => Nat.le_trans (hXm y (by simp [hYz, hy])) hl0
    generalize Y = L at *
    by_cases h200 : 200 < L.length
    · have h' : (200 : Int) < (L.length : Int) := by omega
      skip
      repeat' (first
        | (refine WP.nr 6 8 38 ?_ ?_; (focus (simp; done)))
        | refine WP.t ?_ | refine WP.k ?_ | refine WP.e ?_ | refine Qn ?_ | refine Qr ?_ | refine Qe ?_ | refine Bn ?_ | refine Br ?_ | refine Be ?_ | refine Bx (by decide) ?_
        | (refine RS.nl ?_; refine hk _ _ ?_; clear hk k)
        | (refine RS.st fun A B hA hB => ?_; simp [FK, FJ, FI, FH, FG, FF, FE, hl, hX, hlen, hz, hwn, hii, hij, hzz, hlt, hLl, htake, h', h200, sc, onW_t, onW_f, onV_s]; first | (refine hA _ _ _ ?_ ?_; (focus (first | (simp [FK, FJ, FI, FH, FG, FF, FE, hl, hX, hlen, hz, hwn, hii, hij, hzz, hlt, hLl, htake, h', h200, sc]; done) | (simp [FK, FJ, FI, FH, FG, FF, FE, hl, hX, hlen, hz, hwn, hii, hij, hzz, hlt, hLl, htake, h', h200, sc]; omega))); clear hA hB A B) | (refine hB ?_; clear hA hB A B) | (refine onV_if ?_ ?_; (focus (first | omega | (refine ⟨?_, ?_⟩ <;> omega))); simp only [onV_s]; refine hA _ _ _ ?_ ?_; (focus (first | (simp [FK, FJ, FI, FH, FG, FF, FE, hl, hX, hlen, hz, hwn, hii, hij, hzz, hlt, hLl, htake, h', h200, sc]; done) | (simp [FK, FJ, FI, FH, FG, FF, FE, hl, hX, hlen, hz, hwn, hii, hij, hzz, hlt, hLl, htake, h', h200, sc]; omega))); clear hA hB A B))
        | (refine RQ.nl ?_; refine hk _ _ ?_; clear hk k)
        | (refine RQ.st fun A B hA hB => ?_; simp [FK, FJ, FI, FH, FG, FF, FE, hl, hX, hlen, hz, hwn, hii, hij, hzz, hlt, hLl, htake, h', h200, sc, onW_t, onW_f, onV_s]; first | (refine hA _ _ _ ?_ (by first | exact .inl rfl | exact .inr (by decide)) ?_; (focus (first | (simp [FK, FJ, FI, FH, FG, FF, FE, hl, hX, hlen, hz, hwn, hii, hij, hzz, hlt, hLl, htake, h', h200, sc]; done) | (simp [FK, FJ, FI, FH, FG, FF, FE, hl, hX, hlen, hz, hwn, hii, hij, hzz, hlt, hLl, htake, h', h200, sc]; omega))); clear hA hB A B) | (refine hB ?_; clear hA hB A B) | (refine onV_if ?_ ?_; (focus (first | omega | (refine ⟨?_, ?_⟩ <;> omega))); simp only [onV_s]; refine hA _ _ _ ?_ (by first | exact .inl rfl | exact .inr (by decide)) ?_; (focus (first | (simp [FK, FJ, FI, FH, FG, FF, FE, hl, hX, hlen, hz, hwn, hii, hij, hzz, hlt, hLl, htake, h', h200, sc]; done) | (simp [FK, FJ, FI, FH, FG, FF, FE, hl, hX, hlen, hz, hwn, hii, hij, hzz, hlt, hLl, htake, h', h200, sc]; omega))); clear hA hB A B))
        | refine WP.sr fun k hk => ?_ | refine WP.r fun k hk => ?_
        | refine WP.sd _ rfl fun k hk => ?_ | refine WP.d _ rfl fun k hk => ?_
        | (refine WP.cc fun A B hA hB => ?_; simp [FK, FJ, FI, FH, FG, FF, FE, hl, hX, hlen, hz, hwn, hii, hij, hzz, hlt, hLl, htake, h', h200, sc, onB_t, onB_f]; first | (refine hA ?_; clear hA hB A B) | (refine hB ?_; clear hA hB A B) | (refine onB_if (fun h => hA ?_) (fun h => hB ?_) <;> clear hA hB A B))
        | refine WP.q ?_ | refine WP.b ?_)
      refine ⟨.inr rfl, .tup [.nsl, .int .i64 0, .int .i64 4], by simp, ?_⟩
      simp only [parseS, hLe, if_pos h200]
      exact frz_tup3 .nil (.same _ (.int _ _)) (.same _ (.int _ _))
    have h' : ¬ (200 : Int) < (L.length : Int) := by omega
    skip
    repeat' (first
      | (refine WP.nr 6 8 38 ?_ ?_; (focus (simp; done)))
      | refine WP.t ?_ | refine WP.k ?_ | refine WP.e ?_ | refine Qn ?_ | refine Qr ?_ | refine Qe ?_ | refine Bn ?_ | refine Br ?_ | refine Be ?_ | refine Bx (by decide) ?_
      | (refine RS.nl ?_; refine hk _ _ ?_; clear hk k)
      | (refine RS.st fun A B hA hB => ?_; simp [FK, FJ, FI, FH, FG, FF, FE, hl, hX, hlen, hz, hwn, hii, hij, hzz, hlt, hLl, htake, h', h200, sc, onW_t, onW_f, onV_s]; first | (refine hA _ _ _ ?_ ?_; (focus (first | (simp [FK, FJ, FI, FH, FG, FF, FE, hl, hX, hlen, hz, hwn, hii, hij, hzz, hlt, hLl, htake, h', h200, sc]; done) | (simp [FK, FJ, FI, FH, FG, FF, FE, hl, hX, hlen, hz, hwn, hii, hij, hzz, hlt, hLl, htake, h', h200, sc]; omega))); clear hA hB A B) | (refine hB ?_; clear hA hB A B) | (refine onV_if ?_ ?_; (focus (first | omega | (refine ⟨?_, ?_⟩ <;> omega))); simp only [onV_s]; refine hA _ _ _ ?_ ?_; (focus (first | (simp [FK, FJ, FI, FH, FG, FF, FE, hl, hX, hlen, hz, hwn, hii, hij, hzz, hlt, hLl, htake, h', h200, sc]; done) | (simp [FK, FJ, FI, FH, FG, FF, FE, hl, hX, hlen, hz, hwn, hii, hij, hzz, hlt, hLl, htake, h', h200, sc]; omega))); clear hA hB A B))
      | (refine RQ.nl ?_; refine hk _ _ ?_; clear hk k)
      | (refine RQ.st fun A B hA hB => ?_; simp [FK, FJ, FI, FH, FG, FF, FE, hl, hX, hlen, hz, hwn, hii, hij, hzz, hlt, hLl, htake, h', h200, sc, onW_t, onW_f, onV_s]; first | (refine hA _ _ _ ?_ (by first | exact .inl rfl | exact .inr (by decide)) ?_; (focus (first | (simp [FK, FJ, FI, FH, FG, FF, FE, hl, hX, hlen, hz, hwn, hii, hij, hzz, hlt, hLl, htake, h', h200, sc]; done) | (simp [FK, FJ, FI, FH, FG, FF, FE, hl, hX, hlen, hz, hwn, hii, hij, hzz, hlt, hLl, htake, h', h200, sc]; omega))); clear hA hB A B) | (refine hB ?_; clear hA hB A B) | (refine onV_if ?_ ?_; (focus (first | omega | (refine ⟨?_, ?_⟩ <;> omega))); simp only [onV_s]; refine hA _ _ _ ?_ (by first | exact .inl rfl | exact .inr (by decide)) ?_; (focus (first | (simp [FK, FJ, FI, FH, FG, FF, FE, hl, hX, hlen, hz, hwn, hii, hij, hzz, hlt, hLl, htake, h', h200, sc]; done) | (simp [FK, FJ, FI, FH, FG, FF, FE, hl, hX, hlen, hz, hwn, hii, hij, hzz, hlt, hLl, htake, h', h200, sc]; omega))); clear hA hB A B))
      | refine WP.sr fun k hk => ?_ | refine WP.r fun k hk => ?_
      | refine WP.sd _ rfl fun k hk => ?_ | refine WP.d _ rfl fun k hk => ?_
      | (refine WP.cc fun A B hA hB => ?_; simp [FK, FJ, FI, FH, FG, FF, FE, hl, hX, hlen, hz, hwn, hii, hij, hzz, hlt, hLl, htake, h', h200, sc, onB_t, onB_f]; first | (refine hA ?_; clear hA hB A B) | (refine hB ?_; clear hA hB A B) | (refine onB_if (fun h => hA ?_) (fun h => hB ?_) <;> clear hA hB A B))
      | refine WP.q ?_ | refine WP.b ?_)
    refine WP_loopS (fun a : Nat × Nat => [(6, .ls a.2 0 a.1), (27, .sl (L.map sc)), (28, .int .i64 L.length), (29, .int .i64 a.1)]) (fun a s' => a.1 ≤ L.length ∧ s.nx ≤ a.2 ∧ a.2 < s'.nx ∧ (L.take a.1).all goodL = true ∧ s'.get a.2 = some (.row 8 (true, 38) (((L.take a.1).map stOf).map Sm.cs)))
      (fun a => L.length - a.1) (0, s.nx) (by first | (simp; done) | (simp [hlen]; done)) ⟨by simp, by simp, by simp, by simp, by simp⟩ ?_
    rintro ⟨i, rd⟩ s' ⟨hi, hrd, hrd2, hall, hr⟩
    simp only at hi hrd hrd2 hall hr
    by_cases hi2 : i < L.length
    · have hx : L[i]? = some L[i] := List.getElem?_eq_getElem hi2
      have hlx := hLx L[i] (List.getElem_mem hi2)
      have htk : L.take (i + 1) = L.take i ++ [L[i]] := List.take_succ_eq_append_getElem hi2
      have hw := wrap_succ hi2 (show L.length < LIM by simp only [LIM]; omega)
      have hfi : ∀ b : Bool, goodL L[i] = b → b = false → L.findIdx (fun y => !goodL y) = i := fun b h1 h2 => by
        rw [List.findIdx_eq hi2]
        refine ⟨by simp [h1, h2], fun j hj => ?_⟩
        have : L[j] ∈ L.take i := List.mem_take_iff_getElem.2 ⟨j, by omega, rfl⟩
        have := List.all_eq_true.1 hall _ this
        simp [this]
      have hna : goodL L[i] = false → L.all goodL = false := fun h => List.all_eq_false.2 ⟨L[i], List.getElem_mem hi2, by simp [h]⟩
      have e1 : ¬ rd = s'.nx := by omega
      have e2 : ¬ rd = s'.nx + 1 := by omega
      have e3 : ¬ s'.nx = rd := by omega
      have e4 : ¬ s'.nx + 1 = rd := by omega
      have e5 : rd < s'.nx + 1 := by omega
      have e6 : rd < s'.nx + 2 := by omega
      have w1 : s.nx ≤ s'.nx := by omega
      have w2 : s.nx ≤ s'.nx + 1 := by omega
      have w3 : s.nx ≤ s'.nx + 2 := by omega
      have hmin : min i L.length = i := by omega
      have hby : (i + 1) * 96 ≤ 140737488355328 := by omega
      generalize hv : L[i] = one at *
      have t0 : one.length < LIM := by simp only [LIM]; omega
      have t1 : (Lib.trimSuffix one [10]).length < 4294967281 := by have := trim_len one [10]; omega
      have t2 : (splitC 32 0 (Lib.trimSuffix one [10])).length < LIM := by have := trim_len one [10]; have := splitC_len 32 0 (Lib.trimSuffix one [10]); simp only [LIM]; omega
      have t3 : ∀ x ∈ splitC 32 0 (Lib.trimSuffix one [10]), x.length ≤ 100000000 := fun x hx => by have := trim_len one [10]; have := splitC_mem 32 0 _ x hx; omega
      obtain ⟨k1, k2⟩ := told_ok t3
      have t4 := all_short t3
      have hgd : goodL one = (mayB (stOf one) && (lineS (stOf one) ++ [10] == one)) := rfl
      have hst : stOf one = toldS (splitC 32 0 (Lib.trimSuffix one [10])) := rfl
      generalize hm : toldS (splitC 32 0 (Lib.trimSuffix one [10])) = m at *
      rw [hst] at hgd
      have hcs : m.cs = [.int .i64 m.k, .str m.x, .str m.y, .str m.z, .str m.o, .int .i64 m.n, .int .i64 m.a, .int .i64 m.b] := rfl
      cases hmay : mayB m
      · have hbad : goodL one = false := by rw [hgd, hmay]; rfl
        repeat' (first
          | refine WP.t ?_ | refine WP.k ?_ | refine WP.e ?_ | refine Qn ?_ | refine Qr ?_ | refine Qe ?_ | refine Bn ?_ | refine Br ?_ | refine Be ?_ | refine Bx (by decide) ?_
          | (refine RS.nl ?_; refine hk _ _ ?_; clear hk k)
          | (refine RS.st fun A B hA hB => ?_; simp [FK, FJ, FI, FH, FG, FF, FE, hi2, hx, hv, sc, t0, t1, t2, t4, hm, hcs, k1, hmay, hr, e1, e2, e3, e4, e5, e6, w1, w2, w3, onW_t, onW_f, onV_s]; first | (refine hA _ _ _ ?_ ?_; (focus (first | (simp [FK, FJ, FI, FH, FG, FF, FE, hi2, hx, hv, sc, t0, t1, t2, t4, hm, hcs, k1, hmay, hr, e1, e2, e3, e4, e5, e6, w1, w2, w3]; done) | (simp [FK, FJ, FI, FH, FG, FF, FE, hi2, hx, hv, sc, t0, t1, t2, t4, hm, hcs, k1, hmay, hr, e1, e2, e3, e4, e5, e6, w1, w2, w3]; omega))); clear hA hB A B) | (refine hB ?_; clear hA hB A B) | (refine onV_if ?_ ?_; (focus (first | omega | (refine ⟨?_, ?_⟩ <;> omega))); simp only [onV_s]; refine hA _ _ _ ?_ ?_; (focus (first | (simp [FK, FJ, FI, FH, FG, FF, FE, hi2, hx, hv, sc, t0, t1, t2, t4, hm, hcs, k1, hmay, hr, e1, e2, e3, e4, e5, e6, w1, w2, w3]; done) | (simp [FK, FJ, FI, FH, FG, FF, FE, hi2, hx, hv, sc, t0, t1, t2, t4, hm, hcs, k1, hmay, hr, e1, e2, e3, e4, e5, e6, w1, w2, w3]; omega))); clear hA hB A B))
          | (refine RQ.nl ?_; refine hk _ _ ?_; clear hk k)
          | (refine RQ.st fun A B hA hB => ?_; simp [FK, FJ, FI, FH, FG, FF, FE, hi2, hx, hv, sc, t0, t1, t2, t4, hm, hcs, k1, hmay, hr, e1, e2, e3, e4, e5, e6, w1, w2, w3, onW_t, onW_f, onV_s]; first | (refine hA _ _ _ ?_ (by first | exact .inl rfl | exact .inr (by decide)) ?_; (focus (first | (simp [FK, FJ, FI, FH, FG, FF, FE, hi2, hx, hv, sc, t0, t1, t2, t4, hm, hcs, k1, hmay, hr, e1, e2, e3, e4, e5, e6, w1, w2, w3]; done) | (simp [FK, FJ, FI, FH, FG, FF, FE, hi2, hx, hv, sc, t0, t1, t2, t4, hm, hcs, k1, hmay, hr, e1, e2, e3, e4, e5, e6, w1, w2, w3]; omega))); clear hA hB A B) | (refine hB ?_; clear hA hB A B) | (refine onV_if ?_ ?_; (focus (first | omega | (refine ⟨?_, ?_⟩ <;> omega))); simp only [onV_s]; refine hA _ _ _ ?_ (by first | exact .inl rfl | exact .inr (by decide)) ?_; (focus (first | (simp [FK, FJ, FI, FH, FG, FF, FE, hi2, hx, hv, sc, t0, t1, t2, t4, hm, hcs, k1, hmay, hr, e1, e2, e3, e4, e5, e6, w1, w2, w3]; done) | (simp [FK, FJ, FI, FH, FG, FF, FE, hi2, hx, hv, sc, t0, t1, t2, t4, hm, hcs, k1, hmay, hr, e1, e2, e3, e4, e5, e6, w1, w2, w3]; omega))); clear hA hB A B))
          | refine WP.sr fun k hk => ?_ | refine WP.r fun k hk => ?_
          | refine WP.sd _ rfl fun k hk => ?_ | refine WP.d _ rfl fun k hk => ?_
          | (refine WP.cc fun A B hA hB => ?_; simp [FK, FJ, FI, FH, FG, FF, FE, hi2, hx, hv, sc, t0, t1, t2, t4, hm, hcs, k1, hmay, hr, e1, e2, e3, e4, e5, e6, w1, w2, w3, onB_t, onB_f]; first | (refine hA ?_; clear hA hB A B) | (refine hB ?_; clear hA hB A B) | (refine onB_if (fun h => hA ?_) (fun h => hB ?_) <;> clear hA hB A B))
          | refine WP.q ?_ | refine WP.b ?_)
        refine ⟨.inr rfl, .tup [.nsl, .int .i64 i, .int .i64 2], by simp, ?_⟩
        simp only [parseS, hLe, if_neg h200, hna hbad, Bool.false_eq_true, if_false, hfi _ hbad rfl]
        exact frz_tup3 .nil (.same _ (.int _ _)) (.same _ (.int _ _))
      · have hokw := okW_of (may_short hmay) k2
        have hll := line_le (may_short hmay) k2
        have g9 : (lineS m).length ≤ 9223372036854775806 := by omega
        have heta : Sm.mk m.k m.x m.y m.z m.o m.n m.a m.b = m := rfl
        cases heq : (lineS m ++ [10] == one)
        · have hbad : goodL one = false := by rw [hgd, hmay, heq]; rfl
          repeat' (first
            | refine WP.t ?_ | refine WP.k ?_ | refine WP.e ?_ | refine Qn ?_ | refine Qr ?_ | refine Qe ?_ | refine Bn ?_ | refine Br ?_ | refine Be ?_ | refine Bx (by decide) ?_
            | (refine RS.nl ?_; refine hk _ _ ?_; clear hk k)
            | (refine RS.st fun A B hA hB => ?_; simp [FK, FJ, FI, FH, FG, FF, FE, hi2, hx, hv, sc, t0, t1, t2, t4, hm, hcs, k1, hmay, hokw, g9, heta, heq, hr, e1, e2, e3, e4, e5, e6, w1, w2, w3, onW_t, onW_f, onV_s]; first | (refine hA _ _ _ ?_ ?_; (focus (first | (simp [FK, FJ, FI, FH, FG, FF, FE, hi2, hx, hv, sc, t0, t1, t2, t4, hm, hcs, k1, hmay, hokw, g9, heta, heq, hr, e1, e2, e3, e4, e5, e6, w1, w2, w3]; done) | (simp [FK, FJ, FI, FH, FG, FF, FE, hi2, hx, hv, sc, t0, t1, t2, t4, hm, hcs, k1, hmay, hokw, g9, heta, heq, hr, e1, e2, e3, e4, e5, e6, w1, w2, w3]; omega))); clear hA hB A B) | (refine hB ?_; clear hA hB A B) | (refine onV_if ?_ ?_; (focus (first | omega | (refine ⟨?_, ?_⟩ <;> omega))); simp only [onV_s]; refine hA _ _ _ ?_ ?_; (focus (first | (simp [FK, FJ, FI, FH, FG, FF, FE, hi2, hx, hv, sc, t0, t1, t2, t4, hm, hcs, k1, hmay, hokw, g9, heta, heq, hr, e1, e2, e3, e4, e5, e6, w1, w2, w3]; done) | (simp [FK, FJ, FI, FH, FG, FF, FE, hi2, hx, hv, sc, t0, t1, t2, t4, hm, hcs, k1, hmay, hokw, g9, heta, heq, hr, e1, e2, e3, e4, e5, e6, w1, w2, w3]; omega))); clear hA hB A B))
            | (refine RQ.nl ?_; refine hk _ _ ?_; clear hk k)
            | (refine RQ.st fun A B hA hB => ?_; simp [FK, FJ, FI, FH, FG, FF, FE, hi2, hx, hv, sc, t0, t1, t2, t4, hm, hcs, k1, hmay, hokw, g9, heta, heq, hr, e1, e2, e3, e4, e5, e6, w1, w2, w3, onW_t, onW_f, onV_s]; first | (refine hA _ _ _ ?_ (by first | exact .inl rfl | exact .inr (by decide)) ?_; (focus (first | (simp [FK, FJ, FI, FH, FG, FF, FE, hi2, hx, hv, sc, t0, t1, t2, t4, hm, hcs, k1, hmay, hokw, g9, heta, heq, hr, e1, e2, e3, e4, e5, e6, w1, w2, w3]; done) | (simp [FK, FJ, FI, FH, FG, FF, FE, hi2, hx, hv, sc, t0, t1, t2, t4, hm, hcs, k1, hmay, hokw, g9, heta, heq, hr, e1, e2, e3, e4, e5, e6, w1, w2, w3]; omega))); clear hA hB A B) | (refine hB ?_; clear hA hB A B) | (refine onV_if ?_ ?_; (focus (first | omega | (refine ⟨?_, ?_⟩ <;> omega))); simp only [onV_s]; refine hA _ _ _ ?_ (by first | exact .inl rfl | exact .inr (by decide)) ?_; (focus (first | (simp [FK, FJ, FI, FH, FG, FF, FE, hi2, hx, hv, sc, t0, t1, t2, t4, hm, hcs, k1, hmay, hokw, g9, heta, heq, hr, e1, e2, e3, e4, e5, e6, w1, w2, w3]; done) | (simp [FK, FJ, FI, FH, FG, FF, FE, hi2, hx, hv, sc, t0, t1, t2, t4, hm, hcs, k1, hmay, hokw, g9, heta, heq, hr, e1, e2, e3, e4, e5, e6, w1, w2, w3]; omega))); clear hA hB A B))
            | refine WP.sr fun k hk => ?_ | refine WP.r fun k hk => ?_
            | refine WP.sd _ rfl fun k hk => ?_ | refine WP.d _ rfl fun k hk => ?_
            | (refine WP.cc fun A B hA hB => ?_; simp [FK, FJ, FI, FH, FG, FF, FE, hi2, hx, hv, sc, t0, t1, t2, t4, hm, hcs, k1, hmay, hokw, g9, heta, heq, hr, e1, e2, e3, e4, e5, e6, w1, w2, w3, onB_t, onB_f]; first | (refine hA ?_; clear hA hB A B) | (refine hB ?_; clear hA hB A B) | (refine onB_if (fun h => hA ?_) (fun h => hB ?_) <;> clear hA hB A B))
            | refine WP.q ?_ | refine WP.b ?_)
          refine ⟨.inr rfl, .tup [.nsl, .int .i64 i, .int .i64 2], by simp, ?_⟩
          simp only [parseS, hLe, if_neg h200, hna hbad, Bool.false_eq_true, if_false, hfi _ hbad rfl]
          exact frz_tup3 .nil (.same _ (.int _ _)) (.same _ (.int _ _))
        · have hgood : goodL one = true := by rw [hgd, hmay, heq]; rfl
          repeat' (first
            | refine WP.t ?_ | refine WP.k ?_ | refine WP.e ?_ | refine Qn ?_ | refine Qr ?_ | refine Qe ?_ | refine Bn ?_ | refine Br ?_ | refine Be ?_ | refine Bx (by decide) ?_
            | (refine RS.nl ?_; refine hk _ _ ?_; clear hk k)
            | (refine RS.st fun A B hA hB => ?_; simp [FK, FJ, FI, FH, FG, FF, FE, hi2, hx, hv, sc, t0, t1, t2, t4, hm, hcs, k1, hmay, hokw, g9, heta, heq, hr, e1, e2, e3, e4, e5, e6, w1, w2, w3, hmin, hby, hw, onW_t, onW_f, onV_s]; first | (refine hA _ _ _ ?_ ?_; (focus (first | (simp [FK, FJ, FI, FH, FG, FF, FE, hi2, hx, hv, sc, t0, t1, t2, t4, hm, hcs, k1, hmay, hokw, g9, heta, heq, hr, e1, e2, e3, e4, e5, e6, w1, w2, w3, hmin, hby, hw]; done) | (simp [FK, FJ, FI, FH, FG, FF, FE, hi2, hx, hv, sc, t0, t1, t2, t4, hm, hcs, k1, hmay, hokw, g9, heta, heq, hr, e1, e2, e3, e4, e5, e6, w1, w2, w3, hmin, hby, hw]; omega))); clear hA hB A B) | (refine hB ?_; clear hA hB A B) | (refine onV_if ?_ ?_; (focus (first | omega | (refine ⟨?_, ?_⟩ <;> omega))); simp only [onV_s]; refine hA _ _ _ ?_ ?_; (focus (first | (simp [FK, FJ, FI, FH, FG, FF, FE, hi2, hx, hv, sc, t0, t1, t2, t4, hm, hcs, k1, hmay, hokw, g9, heta, heq, hr, e1, e2, e3, e4, e5, e6, w1, w2, w3, hmin, hby, hw]; done) | (simp [FK, FJ, FI, FH, FG, FF, FE, hi2, hx, hv, sc, t0, t1, t2, t4, hm, hcs, k1, hmay, hokw, g9, heta, heq, hr, e1, e2, e3, e4, e5, e6, w1, w2, w3, hmin, hby, hw]; omega))); clear hA hB A B))
            | (refine RQ.nl ?_; refine hk _ _ ?_; clear hk k)
            | (refine RQ.st fun A B hA hB => ?_; simp [FK, FJ, FI, FH, FG, FF, FE, hi2, hx, hv, sc, t0, t1, t2, t4, hm, hcs, k1, hmay, hokw, g9, heta, heq, hr, e1, e2, e3, e4, e5, e6, w1, w2, w3, hmin, hby, hw, onW_t, onW_f, onV_s]; first | (refine hA _ _ _ ?_ (by first | exact .inl rfl | exact .inr (by decide)) ?_; (focus (first | (simp [FK, FJ, FI, FH, FG, FF, FE, hi2, hx, hv, sc, t0, t1, t2, t4, hm, hcs, k1, hmay, hokw, g9, heta, heq, hr, e1, e2, e3, e4, e5, e6, w1, w2, w3, hmin, hby, hw]; done) | (simp [FK, FJ, FI, FH, FG, FF, FE, hi2, hx, hv, sc, t0, t1, t2, t4, hm, hcs, k1, hmay, hokw, g9, heta, heq, hr, e1, e2, e3, e4, e5, e6, w1, w2, w3, hmin, hby, hw]; omega))); clear hA hB A B) | (refine hB ?_; clear hA hB A B) | (refine onV_if ?_ ?_; (focus (first | omega | (refine ⟨?_, ?_⟩ <;> omega))); simp only [onV_s]; refine hA _ _ _ ?_ (by first | exact .inl rfl | exact .inr (by decide)) ?_; (focus (first | (simp [FK, FJ, FI, FH, FG, FF, FE, hi2, hx, hv, sc, t0, t1, t2, t4, hm, hcs, k1, hmay, hokw, g9, heta, heq, hr, e1, e2, e3, e4, e5, e6, w1, w2, w3, hmin, hby, hw]; done) | (simp [FK, FJ, FI, FH, FG, FF, FE, hi2, hx, hv, sc, t0, t1, t2, t4, hm, hcs, k1, hmay, hokw, g9, heta, heq, hr, e1, e2, e3, e4, e5, e6, w1, w2, w3, hmin, hby, hw]; omega))); clear hA hB A B))
            | refine WP.sr fun k hk => ?_ | refine WP.r fun k hk => ?_
            | refine WP.sd _ rfl fun k hk => ?_ | refine WP.d _ rfl fun k hk => ?_
            | (refine WP.cc fun A B hA hB => ?_; simp [FK, FJ, FI, FH, FG, FF, FE, hi2, hx, hv, sc, t0, t1, t2, t4, hm, hcs, k1, hmay, hokw, g9, heta, heq, hr, e1, e2, e3, e4, e5, e6, w1, w2, w3, hmin, hby, hw, onB_t, onB_f]; first | (refine hA ?_; clear hA hB A B) | (refine hB ?_; clear hA hB A B) | (refine onB_if (fun h => hA ?_) (fun h => hB ?_) <;> clear hA hB A B))
            | refine WP.q ?_ | refine WP.b ?_)
          refine ⟨(i + 1, s'.nx + 2), by simp; omega, by simp, by simp; omega, by simp; omega, by simp, by simp only [htk, List.all_append, hall]; simp [hgood], ?_⟩
          simp [htk, hst, hcs, List.map_take]
    · have he : L.take i = L := List.take_of_length_le (by omega)
      have hiL : i = L.length := by omega
      rw [he] at hall hr
      repeat' (first
        | refine WP.t ?_ | refine WP.k ?_ | refine WP.e ?_ | refine Qn ?_ | refine Qr ?_ | refine Qe ?_ | refine Bn ?_ | refine Br ?_ | refine Be ?_ | refine Bx (by decide) ?_
        | (refine RS.nl ?_; refine hk _ _ ?_; clear hk k)
        | (refine RS.st fun A B hA hB => ?_; simp [hi2, onW_t, onW_f, onV_s]; first | (refine hA _ _ _ ?_ ?_; (focus (first | (simp [hi2]; done) | (simp [hi2]; omega))); clear hA hB A B) | (refine hB ?_; clear hA hB A B) | (refine onV_if ?_ ?_; (focus (first | omega | (refine ⟨?_, ?_⟩ <;> omega))); simp only [onV_s]; refine hA _ _ _ ?_ ?_; (focus (first | (simp [hi2]; done) | (simp [hi2]; omega))); clear hA hB A B))
        | (refine RQ.nl ?_; refine hk _ _ ?_; clear hk k)
        | (refine RQ.st fun A B hA hB => ?_; simp [hi2, onW_t, onW_f, onV_s]; first | (refine hA _ _ _ ?_ (by first | exact .inl rfl | exact .inr (by decide)) ?_; (focus (first | (simp [hi2]; done) | (simp [hi2]; omega))); clear hA hB A B) | (refine hB ?_; clear hA hB A B) | (refine onV_if ?_ ?_; (focus (first | omega | (refine ⟨?_, ?_⟩ <;> omega))); simp only [onV_s]; refine hA _ _ _ ?_ (by first | exact .inl rfl | exact .inr (by decide)) ?_; (focus (first | (simp [hi2]; done) | (simp [hi2]; omega))); clear hA hB A B))
        | refine WP.sr fun k hk => ?_ | refine WP.r fun k hk => ?_
        | refine WP.sd _ rfl fun k hk => ?_ | refine WP.d _ rfl fun k hk => ?_
        | (refine WP.cc fun A B hA hB => ?_; simp [hi2, onB_t, onB_f]; first | (refine hA ?_; clear hA hB A B) | (refine hB ?_; clear hA hB A B) | (refine onB_if (fun h => hA ?_) (fun h => hB ?_) <;> clear hA hB A B))
        | refine WP.q ?_ | refine WP.b ?_)
      refine ⟨.inr rfl, .tup [.ls rd 0 i, .int .i64 0, .int .i64 0], by simp, ?_⟩
      simp only [parseS, hLe, if_neg h200, hall, if_true]
      exact frz_tup3 (frz_sl cSm hr hrd (by simp [hiL])) (.same _ (.int _ _)) (.same _ (.int _ _))
  · have hz1 : (z == []) = false := by simpa using hz0
    have hz2 : z.isEmpty = false := by cases z <;> simp_all
    have hLe : linesOf x = X := by rw [hLe0, hYz]; simp [hz0]
    have hLl : X.length ≤ 100001 := by omega
    have hLx : ∀ y ∈ X, y.length ≤ 100000 := fun y hy => Nat.le_trans (hXm y hy) hl0
    clear hYz
    generalize hn : Y.length = n at *
    have hlen2 := hlen
    clear hLe0
    generalize hXL : X = L at *
    by_cases h200 : 200 < L.length
    · have h' : (200 : Int) < (L.length : Int) := by omega
      have hq : (200 : Int) < (n : Int) + 1 := by omega
      repeat' (first
        | (refine WP.nr 6 8 38 ?_ ?_; (focus (simp; done)))
        | refine WP.t ?_ | refine WP.k ?_ | refine WP.e ?_ | refine Qn ?_ | refine Qr ?_ | refine Qe ?_ | refine Bn ?_ | refine Br ?_ | refine Be ?_ | refine Bx (by decide) ?_
        | (refine RS.nl ?_; refine hk _ _ ?_; clear hk k)
        | (refine RS.st fun A B hA hB => ?_; simp [FK, FJ, FI, FH, FG, FF, FE, hl, hX, hlen, hz, hwn, hii, hij, hzz, hlt, hz1, hz2, hLl, hq, h', h200, sc, onW_t, onW_f, onV_s]; first | (refine hA _ _ _ ?_ ?_; (focus (first | (simp [FK, FJ, FI, FH, FG, FF, FE, hl, hX, hlen, hz, hwn, hii, hij, hzz, hlt, hz1, hz2, hLl, hq, h', h200, sc]; done) | (simp [FK, FJ, FI, FH, FG, FF, FE, hl, hX, hlen, hz, hwn, hii, hij, hzz, hlt, hz1, hz2, hLl, hq, h', h200, sc]; omega))); clear hA hB A B) | (refine hB ?_; clear hA hB A B) | (refine onV_if ?_ ?_; (focus (first | omega | (refine ⟨?_, ?_⟩ <;> omega))); simp only [onV_s]; refine hA _ _ _ ?_ ?_; (focus (first | (simp [FK, FJ, FI, FH, FG, FF, FE, hl, hX, hlen, hz, hwn, hii, hij, hzz, hlt, hz1, hz2, hLl, hq, h', h200, sc]; done) | (simp [FK, FJ, FI, FH, FG, FF, FE, hl, hX, hlen, hz, hwn, hii, hij, hzz, hlt, hz1, hz2, hLl, hq, h', h200, sc]; omega))); clear hA hB A B))
        | (refine RQ.nl ?_; refine hk _ _ ?_; clear hk k)
        | (refine RQ.st fun A B hA hB => ?_; simp [FK, FJ, FI, FH, FG, FF, FE, hl, hX, hlen, hz, hwn, hii, hij, hzz, hlt, hz1, hz2, hLl, hq, h', h200, sc, onW_t, onW_f, onV_s]; first | (refine hA _ _ _ ?_ (by first | exact .inl rfl | exact .inr (by decide)) ?_; (focus (first | (simp [FK, FJ, FI, FH, FG, FF, FE, hl, hX, hlen, hz, hwn, hii, hij, hzz, hlt, hz1, hz2, hLl, hq, h', h200, sc]; done) | (simp [FK, FJ, FI, FH, FG, FF, FE, hl, hX, hlen, hz, hwn, hii, hij, hzz, hlt, hz1, hz2, hLl, hq, h', h200, sc]; omega))); clear hA hB A B) | (refine hB ?_; clear hA hB A B) | (refine onV_if ?_ ?_; (focus (first | omega | (refine ⟨?_, ?_⟩ <;> omega))); simp only [onV_s]; refine hA _ _ _ ?_ (by first | exact .inl rfl | exact .inr (by decide)) ?_; (focus (first | (simp [FK, FJ, FI, FH, FG, FF, FE, hl, hX, hlen, hz, hwn, hii, hij, hzz, hlt, hz1, hz2, hLl, hq, h', h200, sc]; done) | (simp [FK, FJ, FI, FH, FG, FF, FE, hl, hX, hlen, hz, hwn, hii, hij, hzz, hlt, hz1, hz2, hLl, hq, h', h200, sc]; omega))); clear hA hB A B))
        | refine WP.sr fun k hk => ?_ | refine WP.r fun k hk => ?_
        | refine WP.sd _ rfl fun k hk => ?_ | refine WP.d _ rfl fun k hk => ?_
        | (refine WP.cc fun A B hA hB => ?_; simp [FK, FJ, FI, FH, FG, FF, FE, hl, hX, hlen, hz, hwn, hii, hij, hzz, hlt, hz1, hz2, hLl, hq, h', h200, sc, onB_t, onB_f]; first | (refine hA ?_; clear hA hB A B) | (refine hB ?_; clear hA hB A B) | (refine onB_if (fun h => hA ?_) (fun h => hB ?_) <;> clear hA hB A B))
        | refine WP.q ?_ | refine WP.b ?_)
      refine ⟨.inr rfl, .tup [.nsl, .int .i64 0, .int .i64 4], by simp, ?_⟩
      simp only [parseS, hLe, if_pos h200]
      exact frz_tup3 .nil (.same _ (.int _ _)) (.same _ (.int _ _))
    have h' : ¬ (200 : Int) < (L.length : Int) := by omega
    have hq : ¬ (200 : Int) < (n : Int) + 1 := by omega
    repeat' (first
      | (refine WP.nr 6 8 38 ?_ ?_; (focus (simp; done)))
      | refine WP.t ?_ | refine WP.k ?_ | refine WP.e ?_ | refine Qn ?_ | refine Qr ?_ | refine Qe ?_ | refine Bn ?_ | refine Br ?_ | refine Be ?_ | refine Bx (by decide) ?_
      | (refine RS.nl ?_; refine hk _ _ ?_; clear hk k)
      | (refine RS.st fun A B hA hB => ?_; simp [FK, FJ, FI, FH, FG, FF, FE, hl, hX, hlen, hz, hwn, hii, hij, hzz, hlt, hz1, hz2, hLl, hq, h', h200, sc, onW_t, onW_f, onV_s]; first | (refine hA _ _ _ ?_ ?_; (focus (first | (simp [FK, FJ, FI, FH, FG, FF, FE, hl, hX, hlen, hz, hwn, hii, hij, hzz, hlt, hz1, hz2, hLl, hq, h', h200, sc]; done) | (simp [FK, FJ, FI, FH, FG, FF, FE, hl, hX, hlen, hz, hwn, hii, hij, hzz, hlt, hz1, hz2, hLl, hq, h', h200, sc]; omega))); clear hA hB A B) | (refine hB ?_; clear hA hB A B) | (refine onV_if ?_ ?_; (focus (first | omega | (refine ⟨?_, ?_⟩ <;> omega))); simp only [onV_s]; refine hA _ _ _ ?_ ?_; (focus (first | (simp [FK, FJ, FI, FH, FG, FF, FE, hl, hX, hlen, hz, hwn, hii, hij, hzz, hlt, hz1, hz2, hLl, hq, h', h200, sc]; done) | (simp [FK, FJ, FI, FH, FG, FF, FE, hl, hX, hlen, hz, hwn, hii, hij, hzz, hlt, hz1, hz2, hLl, hq, h', h200, sc]; omega))); clear hA hB A B))
      | (refine RQ.nl ?_; refine hk _ _ ?_; clear hk k)
      | (refine RQ.st fun A B hA hB => ?_; simp [FK, FJ, FI, FH, FG, FF, FE, hl, hX, hlen, hz, hwn, hii, hij, hzz, hlt, hz1, hz2, hLl, hq, h', h200, sc, onW_t, onW_f, onV_s]; first | (refine hA _ _ _ ?_ (by first | exact .inl rfl | exact .inr (by decide)) ?_; (focus (first | (simp [FK, FJ, FI, FH, FG, FF, FE, hl, hX, hlen, hz, hwn, hii, hij, hzz, hlt, hz1, hz2, hLl, hq, h', h200, sc]; done) | (simp [FK, FJ, FI, FH, FG, FF, FE, hl, hX, hlen, hz, hwn, hii, hij, hzz, hlt, hz1, hz2, hLl, hq, h', h200, sc]; omega))); clear hA hB A B) | (refine hB ?_; clear hA hB A B) | (refine onV_if ?_ ?_; (focus (first | omega | (refine ⟨?_, ?_⟩ <;> omega))); simp only [onV_s]; refine hA _ _ _ ?_ (by first | exact .inl rfl | exact .inr (by decide)) ?_; (focus (first | (simp [FK, FJ, FI, FH, FG, FF, FE, hl, hX, hlen, hz, hwn, hii, hij, hzz, hlt, hz1, hz2, hLl, hq, h', h200, sc]; done) | (simp [FK, FJ, FI, FH, FG, FF, FE, hl, hX, hlen, hz, hwn, hii, hij, hzz, hlt, hz1, hz2, hLl, hq, h', h200, sc]; omega))); clear hA hB A B))
      | refine WP.sr fun k hk => ?_ | refine WP.r fun k hk => ?_
      | refine WP.sd _ rfl fun k hk => ?_ | refine WP.d _ rfl fun k hk => ?_
      | (refine WP.cc fun A B hA hB => ?_; simp [FK, FJ, FI, FH, FG, FF, FE, hl, hX, hlen, hz, hwn, hii, hij, hzz, hlt, hz1, hz2, hLl, hq, h', h200, sc, onB_t, onB_f]; first | (refine hA ?_; clear hA hB A B) | (refine hB ?_; clear hA hB A B) | (refine onB_if (fun h => hA ?_) (fun h => hB ?_) <;> clear hA hB A B))
      | refine WP.q ?_ | refine WP.b ?_)
    refine WP_loopS (fun a : Nat × Nat => [(6, .ls a.2 0 a.1), (27, .sl (L.map sc)), (28, .int .i64 L.length), (29, .int .i64 a.1)]) (fun a s' => a.1 ≤ L.length ∧ s.nx ≤ a.2 ∧ a.2 < s'.nx ∧ (L.take a.1).all goodL = true ∧ s'.get a.2 = some (.row 8 (true, 38) (((L.take a.1).map stOf).map Sm.cs)))
      (fun a => L.length - a.1) (0, s.nx) (by first | (simp; done) | (simp [hlen]; done)) ⟨by simp, by simp, by simp, by simp, by simp⟩ ?_
    rintro ⟨i, rd⟩ s' ⟨hi, hrd, hrd2, hall, hr⟩
    simp only at hi hrd hrd2 hall hr
    by_cases hi2 : i < L.length
    · have hx : L[i]? = some L[i] := List.getElem?_eq_getElem hi2
      have hlx := hLx L[i] (List.getElem_mem hi2)
      have htk : L.take (i + 1) = L.take i ++ [L[i]] := List.take_succ_eq_append_getElem hi2
      have hw := wrap_succ hi2 (show L.length < LIM by simp only [LIM]; omega)
      have hfi : ∀ b : Bool, goodL L[i] = b → b = false → L.findIdx (fun y => !goodL y) = i := fun b h1 h2 => by
        rw [List.findIdx_eq hi2]
        refine ⟨by simp [h1, h2], fun j hj => ?_⟩
        have : L[j] ∈ L.take i := List.mem_take_iff_getElem.2 ⟨j, by omega, rfl⟩
        have := List.all_eq_true.1 hall _ this
        simp [this]
      have hna : goodL L[i] = false → L.all goodL = false := fun h => List.all_eq_false.2 ⟨L[i], List.getElem_mem hi2, by simp [h]⟩
      have e1 : ¬ rd = s'.nx := by omega
      have e2 : ¬ rd = s'.nx + 1 := by omega
      have e3 : ¬ s'.nx = rd := by omega
      have e4 : ¬ s'.nx + 1 = rd := by omega
      have e5 : rd < s'.nx + 1 := by omega
      have e6 : rd < s'.nx + 2 := by omega
      have w1 : s.nx ≤ s'.nx := by omega
      have w2 : s.nx ≤ s'.nx + 1 := by omega
      have w3 : s.nx ≤ s'.nx + 2 := by omega
      have hmin : min i L.length = i := by omega
      have hby : (i + 1) * 96 ≤ 140737488355328 := by omega
      generalize hv : L[i] = one at *
      have t0 : one.length < LIM := by simp only [LIM]; omega
      have t1 : (Lib.trimSuffix one [10]).length < 4294967281 := by have := trim_len one [10]; omega
      have t2 : (splitC 32 0 (Lib.trimSuffix one [10])).length < LIM := by have := trim_len one [10]; have := splitC_len 32 0 (Lib.trimSuffix one [10]); simp only [LIM]; omega
      have t3 : ∀ x ∈ splitC 32 0 (Lib.trimSuffix one [10]), x.length ≤ 100000000 := fun x hx => by have := trim_len one [10]; have := splitC_mem 32 0 _ x hx; omega
      obtain ⟨k1, k2⟩ := told_ok t3
      have t4 := all_short t3
      have hgd : goodL one = (mayB (stOf one) && (lineS (stOf one) ++ [10] == one)) := rfl
      have hst : stOf one = toldS (splitC 32 0 (Lib.trimSuffix one [10])) := rfl
      generalize hm : toldS (splitC 32 0 (Lib.trimSuffix one [10])) = m at *
      rw [hst] at hgd
      have hcs : m.cs = [.int .i64 m.k, .str m.x, .str m.y, .str m.z, .str m.o, .int .i64 m.n, .int .i64 m.a, .int .i64 m.b] := rfl
      cases hmay : mayB m
      · have hbad : goodL one = false := by rw [hgd, hmay]; rfl
        repeat' (first
          | refine WP.t ?_ | refine WP.k ?_ | refine WP.e ?_ | refine Qn ?_ | refine Qr ?_ | refine Qe ?_ | refine Bn ?_ | refine Br ?_ | refine Be ?_ | refine Bx (by decide) ?_
          | (refine RS.nl ?_; refine hk _ _ ?_; clear hk k)
          | (refine RS.st fun A B hA hB => ?_; simp [FK, FJ, FI, FH, FG, FF, FE, hi2, hx, hv, sc, t0, t1, t2, t4, hm, hcs, k1, hmay, hr, e1, e2, e3, e4, e5, e6, w1, w2, w3, onW_t, onW_f, onV_s]; first | (refine hA _ _ _ ?_ ?_; (focus (first | (simp [FK, FJ, FI, FH, FG, FF, FE, hi2, hx, hv, sc, t0, t1, t2, t4, hm, hcs, k1, hmay, hr, e1, e2, e3, e4, e5, e6, w1, w2, w3]; done) | (simp [FK, FJ, FI, FH, FG, FF, FE, hi2, hx, hv, sc, t0, t1, t2, t4, hm, hcs, k1, hmay, hr, e1, e2, e3, e4, e5, e6, w1, w2, w3]; omega))); clear hA hB A B) | (refine hB ?_; clear hA hB A B) | (refine onV_if ?_ ?_; (focus (first | omega | (refine ⟨?_, ?_⟩ <;> omega))); simp only [onV_s]; refine hA _ _ _ ?_ ?_; (focus (first | (simp [FK, FJ, FI, FH, FG, FF, FE, hi2, hx, hv, sc, t0, t1, t2, t4, hm, hcs, k1, hmay, hr, e1, e2, e3, e4, e5, e6, w1, w2, w3]; done) | (simp [FK, FJ, FI, FH, FG, FF, FE, hi2, hx, hv, sc, t0, t1, t2, t4, hm, hcs, k1, hmay, hr, e1, e2, e3, e4, e5, e6, w1, w2, w3]; omega))); clear hA hB A B))
          | (refine RQ.nl ?_; refine hk _ _ ?_; clear hk k)
          | (refine RQ.st fun A B hA hB => ?_; simp [FK, FJ, FI, FH, FG, FF, FE, hi2, hx, hv, sc, t0, t1, t2, t4, hm, hcs, k1, hmay, hr, e1, e2, e3, e4, e5, e6, w1, w2, w3, onW_t, onW_f, onV_s]; first | (refine hA _ _ _ ?_ (by first | exact .inl rfl | exact .inr (by decide)) ?_; (focus (first | (simp [FK, FJ, FI, FH, FG, FF, FE, hi2, hx, hv, sc, t0, t1, t2, t4, hm, hcs, k1, hmay, hr, e1, e2, e3, e4, e5, e6, w1, w2, w3]; done) | (simp [FK, FJ, FI, FH, FG, FF, FE, hi2, hx, hv, sc, t0, t1, t2, t4, hm, hcs, k1, hmay, hr, e1, e2, e3, e4, e5, e6, w1, w2, w3]; omega))); clear hA hB A B) | (refine hB ?_; clear hA hB A B) | (refine onV_if ?_ ?_; (focus (first | omega | (refine ⟨?_, ?_⟩ <;> omega))); simp only [onV_s]; refine hA _ _ _ ?_ (by first | exact .inl rfl | exact .inr (by decide)) ?_; (focus (first | (simp [FK, FJ, FI, FH, FG, FF, FE, hi2, hx, hv, sc, t0, t1, t2, t4, hm, hcs, k1, hmay, hr, e1, e2, e3, e4, e5, e6, w1, w2, w3]; done) | (simp [FK, FJ, FI, FH, FG, FF, FE, hi2, hx, hv, sc, t0, t1, t2, t4, hm, hcs, k1, hmay, hr, e1, e2, e3, e4, e5, e6, w1, w2, w3]; omega))); clear hA hB A B))
          | refine WP.sr fun k hk => ?_ | refine WP.r fun k hk => ?_
          | refine WP.sd _ rfl fun k hk => ?_ | refine WP.d _ rfl fun k hk => ?_
          | (refine WP.cc fun A B hA hB => ?_; simp [FK, FJ, FI, FH, FG, FF, FE, hi2, hx, hv, sc, t0, t1, t2, t4, hm, hcs, k1, hmay, hr, e1, e2, e3, e4, e5, e6, w1, w2, w3, onB_t, onB_f]; first | (refine hA ?_; clear hA hB A B) | (refine hB ?_; clear hA hB A B) | (refine onB_if (fun h => hA ?_) (fun h => hB ?_) <;> clear hA hB A B))
          | refine WP.q ?_ | refine WP.b ?_)
        refine ⟨.inr rfl, .tup [.nsl, .int .i64 i, .int .i64 2], by simp, ?_⟩
        simp only [parseS, hLe, if_neg h200, hna hbad, Bool.false_eq_true, if_false, hfi _ hbad rfl]
        exact frz_tup3 .nil (.same _ (.int _ _)) (.same _ (.int _ _))
      · have hokw := okW_of (may_short hmay) k2
        have hll := line_le (may_short hmay) k2
        have g9 : (lineS m).length ≤ 9223372036854775806 := by omega
        have heta : Sm.mk m.k m.x m.y m.z m.o m.n m.a m.b = m := rfl
        cases heq : (lineS m ++ [10] == one)
        · have hbad : goodL one = false := by rw [hgd, hmay, heq]; rfl
          repeat' (first
            | refine WP.t ?_ | refine WP.k ?_ | refine WP.e ?_ | refine Qn ?_ | refine Qr ?_ | refine Qe ?_ | refine Bn ?_ | refine Br ?_ | refine Be ?_ | refine Bx (by decide) ?_
            | (refine RS.nl ?_; refine hk _ _ ?_; clear hk k)
            | (refine RS.st fun A B hA hB => ?_; simp [FK, FJ, FI, FH, FG, FF, FE, hi2, hx, hv, sc, t0, t1, t2, t4, hm, hcs, k1, hmay, hokw, g9, heta, heq, hr, e1, e2, e3, e4, e5, e6, w1, w2, w3, onW_t, onW_f, onV_s]; first | (refine hA _ _ _ ?_ ?_; (focus (first | (simp [FK, FJ, FI, FH, FG, FF, FE, hi2, hx, hv, sc, t0, t1, t2, t4, hm, hcs, k1, hmay, hokw, g9, heta, heq, hr, e1, e2, e3, e4, e5, e6, w1, w2, w3]; done) | (simp [FK, FJ, FI, FH, FG, FF, FE, hi2, hx, hv, sc, t0, t1, t2, t4, hm, hcs, k1, hmay, hokw, g9, heta, heq, hr, e1, e2, e3, e4, e5, e6, w1, w2, w3]; omega))); clear hA hB A B) | (refine hB ?_; clear hA hB A B) | (refine onV_if ?_ ?_; (focus (first | omega | (refine ⟨?_, ?_⟩ <;> omega))); simp only [onV_s]; refine hA _ _ _ ?_ ?_; (focus (first | (simp [FK, FJ, FI, FH, FG, FF, FE, hi2, hx, hv, sc, t0, t1, t2, t4, hm, hcs, k1, hmay, hokw, g9, heta, heq, hr, e1, e2, e3, e4, e5, e6, w1, w2, w3]; done) | (simp [FK, FJ, FI, FH, FG, FF, FE, hi2, hx, hv, sc, t0, t1, t2, t4, hm, hcs, k1, hmay, hokw, g9, heta, heq, hr, e1, e2, e3, e4, e5, e6, w1, w2, w3]; omega))); clear hA hB A B))
            | (refine RQ.nl ?_; refine hk _ _ ?_; clear hk k)
            | (refine RQ.st fun A B hA hB => ?_; simp [FK, FJ, FI, FH, FG, FF, FE, hi2, hx, hv, sc, t0, t1, t2, t4, hm, hcs, k1, hmay, hokw, g9, heta, heq, hr, e1, e2, e3, e4, e5, e6, w1, w2, w3, onW_t, onW_f, onV_s]; first | (refine hA _ _ _ ?_ (by first | exact .inl rfl | exact .inr (by decide)) ?_; (focus (first | (simp [FK, FJ, FI, FH, FG, FF, FE, hi2, hx, hv, sc, t0, t1, t2, t4, hm, hcs, k1, hmay, hokw, g9, heta, heq, hr, e1, e2, e3, e4, e5, e6, w1, w2, w3]; done) | (simp [FK, FJ, FI, FH, FG, FF, FE, hi2, hx, hv, sc, t0, t1, t2, t4, hm, hcs, k1, hmay, hokw, g9, heta, heq, hr, e1, e2, e3, e4, e5, e6, w1, w2, w3]; omega))); clear hA hB A B) | (refine hB ?_; clear hA hB A B) | (refine onV_if ?_ ?_; (focus (first | omega | (refine ⟨?_, ?_⟩ <;> omega))); simp only [onV_s]; refine hA _ _ _ ?_ (by first | exact .inl rfl | exact .inr (by decide)) ?_; (focus (first | (simp [FK, FJ, FI, FH, FG, FF, FE, hi2, hx, hv, sc, t0, t1, t2, t4, hm, hcs, k1, hmay, hokw, g9, heta, heq, hr, e1, e2, e3, e4, e5, e6, w1, w2, w3]; done) | (simp [FK, FJ, FI, FH, FG, FF, FE, hi2, hx, hv, sc, t0, t1, t2, t4, hm, hcs, k1, hmay, hokw, g9, heta, heq, hr, e1, e2, e3, e4, e5, e6, w1, w2, w3]; omega))); clear hA hB A B))
            | refine WP.sr fun k hk => ?_ | refine WP.r fun k hk => ?_
            | refine WP.sd _ rfl fun k hk => ?_ | refine WP.d _ rfl fun k hk => ?_
            | (refine WP.cc fun A B hA hB => ?_; simp [FK, FJ, FI, FH, FG, FF, FE, hi2, hx, hv, sc, t0, t1, t2, t4, hm, hcs, k1, hmay, hokw, g9, heta, heq, hr, e1, e2, e3, e4, e5, e6, w1, w2, w3, onB_t, onB_f]; first | (refine hA ?_; clear hA hB A B) | (refine hB ?_; clear hA hB A B) | (refine onB_if (fun h => hA ?_) (fun h => hB ?_) <;> clear hA hB A B))
            | refine WP.q ?_ | refine WP.b ?_)
          refine ⟨.inr rfl, .tup [.nsl, .int .i64 i, .int .i64 2], by simp, ?_⟩
          simp only [parseS, hLe, if_neg h200, hna hbad, Bool.false_eq_true, if_false, hfi _ hbad rfl]
          exact frz_tup3 .nil (.same _ (.int _ _)) (.same _ (.int _ _))
        · have hgood : goodL one = true := by rw [hgd, hmay, heq]; rfl
          repeat' (first
            | refine WP.t ?_ | refine WP.k ?_ | refine WP.e ?_ | refine Qn ?_ | refine Qr ?_ | refine Qe ?_ | refine Bn ?_ | refine Br ?_ | refine Be ?_ | refine Bx (by decide) ?_
            | (refine RS.nl ?_; refine hk _ _ ?_; clear hk k)
            | (refine RS.st fun A B hA hB => ?_; simp [FK, FJ, FI, FH, FG, FF, FE, hi2, hx, hv, sc, t0, t1, t2, t4, hm, hcs, k1, hmay, hokw, g9, heta, heq, hr, e1, e2, e3, e4, e5, e6, w1, w2, w3, hmin, hby, hw, onW_t, onW_f, onV_s]; first | (refine hA _ _ _ ?_ ?_; (focus (first | (simp [FK, FJ, FI, FH, FG, FF, FE, hi2, hx, hv, sc, t0, t1, t2, t4, hm, hcs, k1, hmay, hokw, g9, heta, heq, hr, e1, e2, e3, e4, e5, e6, w1, w2, w3, hmin, hby, hw]; done) | (simp [FK, FJ, FI, FH, FG, FF, FE, hi2, hx, hv, sc, t0, t1, t2, t4, hm, hcs, k1, hmay, hokw, g9, heta, heq, hr, e1, e2, e3, e4, e5, e6, w1, w2, w3, hmin, hby, hw]; omega))); clear hA hB A B) | (refine hB ?_; clear hA hB A B) | (refine onV_if ?_ ?_; (focus (first | omega | (refine ⟨?_, ?_⟩ <;> omega))); simp only [onV_s]; refine hA _ _ _ ?_ ?_; (focus (first | (simp [FK, FJ, FI, FH, FG, FF, FE, hi2, hx, hv, sc, t0, t1, t2, t4, hm, hcs, k1, hmay, hokw, g9, heta, heq, hr, e1, e2, e3, e4, e5, e6, w1, w2, w3, hmin, hby, hw]; done) | (simp [FK, FJ, FI, FH, FG, FF, FE, hi2, hx, hv, sc, t0, t1, t2, t4, hm, hcs, k1, hmay, hokw, g9, heta, heq, hr, e1, e2, e3, e4, e5, e6, w1, w2, w3, hmin, hby, hw]; omega))); clear hA hB A B))
            | (refine RQ.nl ?_; refine hk _ _ ?_; clear hk k)
            | (refine RQ.st fun A B hA hB => ?_; simp [FK, FJ, FI, FH, FG, FF, FE, hi2, hx, hv, sc, t0, t1, t2, t4, hm, hcs, k1, hmay, hokw, g9, heta, heq, hr, e1, e2, e3, e4, e5, e6, w1, w2, w3, hmin, hby, hw, onW_t, onW_f, onV_s]; first | (refine hA _ _ _ ?_ (by first | exact .inl rfl | exact .inr (by decide)) ?_; (focus (first | (simp [FK, FJ, FI, FH, FG, FF, FE, hi2, hx, hv, sc, t0, t1, t2, t4, hm, hcs, k1, hmay, hokw, g9, heta, heq, hr, e1, e2, e3, e4, e5, e6, w1, w2, w3, hmin, hby, hw]; done) | (simp [FK, FJ, FI, FH, FG, FF, FE, hi2, hx, hv, sc, t0, t1, t2, t4, hm, hcs, k1, hmay, hokw, g9, heta, heq, hr, e1, e2, e3, e4, e5, e6, w1, w2, w3, hmin, hby, hw]; omega))); clear hA hB A B) | (refine hB ?_; clear hA hB A B) | (refine onV_if ?_ ?_; (focus (first | omega | (refine ⟨?_, ?_⟩ <;> omega))); simp only [onV_s]; refine hA _ _ _ ?_ (by first | exact .inl rfl | exact .inr (by decide)) ?_; (focus (first | (simp [FK, FJ, FI, FH, FG, FF, FE, hi2, hx, hv, sc, t0, t1, t2, t4, hm, hcs, k1, hmay, hokw, g9, heta, heq, hr, e1, e2, e3, e4, e5, e6, w1, w2, w3, hmin, hby, hw]; done) | (simp [FK, FJ, FI, FH, FG, FF, FE, hi2, hx, hv, sc, t0, t1, t2, t4, hm, hcs, k1, hmay, hokw, g9, heta, heq, hr, e1, e2, e3, e4, e5, e6, w1, w2, w3, hmin, hby, hw]; omega))); clear hA hB A B))
            | refine WP.sr fun k hk => ?_ | refine WP.r fun k hk => ?_
            | refine WP.sd _ rfl fun k hk => ?_ | refine WP.d _ rfl fun k hk => ?_
            | (refine WP.cc fun A B hA hB => ?_; simp [FK, FJ, FI, FH, FG, FF, FE, hi2, hx, hv, sc, t0, t1, t2, t4, hm, hcs, k1, hmay, hokw, g9, heta, heq, hr, e1, e2, e3, e4, e5, e6, w1, w2, w3, hmin, hby, hw, onB_t, onB_f]; first | (refine hA ?_; clear hA hB A B) | (refine hB ?_; clear hA hB A B) | (refine onB_if (fun h => hA ?_) (fun h => hB ?_) <;> clear hA hB A B))
            | refine WP.q ?_ | refine WP.b ?_)
          refine ⟨(i + 1, s'.nx + 2), by simp; omega, by simp, by simp; omega, by simp; omega, by simp, by simp only [htk, List.all_append, hall]; simp [hgood], ?_⟩
          simp [htk, hst, hcs, List.map_take]
    · have he : L.take i = L := List.take_of_length_le (by omega)
      have hiL : i = L.length := by omega
      rw [he] at hall hr
      repeat' (first
        | refine WP.t ?_ | refine WP.k ?_ | refine WP.e ?_ | refine Qn ?_ | refine Qr ?_ | refine Qe ?_ | refine Bn ?_ | refine Br ?_ | refine Be ?_ | refine Bx (by decide) ?_
        | (refine RS.nl ?_; refine hk _ _ ?_; clear hk k)
        | (refine RS.st fun A B hA hB => ?_; simp [hi2, onW_t, onW_f, onV_s]; first | (refine hA _ _ _ ?_ ?_; (focus (first | (simp [hi2]; done) | (simp [hi2]; omega))); clear hA hB A B) | (refine hB ?_; clear hA hB A B) | (refine onV_if ?_ ?_; (focus (first | omega | (refine ⟨?_, ?_⟩ <;> omega))); simp only [onV_s]; refine hA _ _ _ ?_ ?_; (focus (first | (simp [hi2]; done) | (simp [hi2]; omega))); clear hA hB A B))
        | (refine RQ.nl ?_; refine hk _ _ ?_; clear hk k)
        | (refine RQ.st fun A B hA hB => ?_; simp [hi2, onW_t, onW_f, onV_s]; first | (refine hA _ _ _ ?_ (by first | exact .inl rfl | exact .inr (by decide)) ?_; (focus (first | (simp [hi2]; done) | (simp [hi2]; omega))); clear hA hB A B) | (refine hB ?_; clear hA hB A B) | (refine onV_if ?_ ?_; (focus (first | omega | (refine ⟨?_, ?_⟩ <;> omega))); simp only [onV_s]; refine hA _ _ _ ?_ (by first | exact .inl rfl | exact .inr (by decide)) ?_; (focus (first | (simp [hi2]; done) | (simp [hi2]; omega))); clear hA hB A B))
        | refine WP.sr fun k hk => ?_ | refine WP.r fun k hk => ?_
        | refine WP.sd _ rfl fun k hk => ?_ | refine WP.d _ rfl fun k hk => ?_
        | (refine WP.cc fun A B hA hB => ?_; simp [hi2, onB_t, onB_f]; first | (refine hA ?_; clear hA hB A B) | (refine hB ?_; clear hA hB A B) | (refine onB_if (fun h => hA ?_) (fun h => hB ?_) <;> clear hA hB A B))
        | refine WP.q ?_ | refine WP.b ?_)
      refine ⟨.inr rfl, .tup [.ls rd 0 i, .int .i64 0, .int .i64 0], by simp, ?_⟩
      simp only [parseS, hLe, if_neg h200, hall, if_true]
      exact frz_tup3 (frz_sl cSm hr hrd (by simp [hiL])) (.same _ (.int _ _)) (.same _ (.int _ _))
end
end Go.Am
