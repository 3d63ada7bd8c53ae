/- Part of the proof: abstract values over the given model of Go (T30, T31, T32, T33, T34). Conditions: none of its own; see the statement in the seat's Rows text. -/
import Derived.Test.YtcahihhgikmloaaDoorAmSa
import Derived.Test.YtcahihhgikmloaaDoorAmFour
set_option linter.unusedSimpArgs false
set_option linter.unusedVariables false
set_option linter.unusedSectionVars false
namespace Go.Am
open Go.Proofs
theorem St.put_put (s : St) (id : Nat) (x y : AObj) : (s.put id x).put id y = s.put id y := by
  unfold St.put
  congr 1
  funext j
  by_cases h : j = id <;> simp [h]
theorem St.put_self {s : St} {id : Nat} {o : AObj} (h : s.get id = some o) : s.put id o = s := by
  unfold St.put
  cases s with
  | mk nx get =>
    congr 1
    funext j
    by_cases e : j = id
    · subst e; simp at h; simp [h]
    · simp [e]
abbrev Rows0 := List (List V)
def Rw (t : List V) : List AV := [.sl (t.map V.cs)]
def encD (D : Rows0) : List (List AV) := D.map Rw
def decD : List (List AV) → Option Rows0
  | [] => some []
  | [.sl t] :: l => match decL t, decD l with
    | some v, some r => some (v :: r)
    | _, _ => none
  | _ => none
@[simp] theorem decD_enc (D : Rows0) : decD (encD D) = some D := by
  induction D with
  | nil => rfl
  | cons t D ih => simp only [encD] at ih; simp [encD, Rw, decD, ih]
theorem decD_eq {c : List (List AV)} {D : Rows0} (h : decD c = some D) : c = encD D := by
  induction c generalizing D with
  | nil => cases h; rfl
  | cons x c ih =>
    unfold decD at h
    split at h
    · rename_i heq; cases heq
    · rename_i heq
      cases heq
      split at h
      · rename_i v r hv hr
        cases h
        rw [decL_eq hv, ih hr]; rfl
      · cases h
    · cases h
@[simp] theorem encD_length (D : Rows0) : (encD D).length = D.length := by simp [encD]
theorem encD_get {D : Rows0} {i : Nat} (h : i < D.length) : (encD D)[i]? = some (Rw D[i]) := by simp [encD, h]
@[simp] theorem Rw_tail (t : List V) : (Rw t).tail = [] := rfl
@[simp] theorem Rw_length (t : List V) : (Rw t).length = 1 := rfl
theorem Rw_def (t : List V) : [AV.sl (t.map V.cs)] = Rw t := rfl
theorem encD_set (D : Rows0) (i : Nat) (t : List V) : (encD D).set i (Rw t) = encD (D.set i t) := by simp [encD, List.map_set]
def swp (D : Rows0) (i j : Nat) : Rows0 := match D[i]?, D[j]? with
  | some x, some y => (D.set i y).set j x
  | _, _ => D
theorem swp_of {D : Rows0} {i j : Nat} (hi : i < D.length) (hj : j < D.length) : swp D i j = (D.set i D[j]).set j D[i] := by
  unfold swp
  rw [List.getElem?_eq_getElem hi, List.getElem?_eq_getElem hj]
@[simp] theorem swp_length (D : Rows0) (i j : Nat) : (swp D i j).length = D.length := by
  unfold swp; split <;> simp
def swapR : Nat → Rows0 → Nat → Nat → Rows0
  | 0, D, _, _ => D
  | n + 1, D, a, b => swapR n (swp D a b) (a + 1) (b + 1)
section
variable {K : Nat} {gw : World} {s : St}
attribute [local simp] awanted xop zOf zrow aop ev T0 Slots.put Slots.set Slots.get awr WOk AV.may ofConst abinop aint isConst St.get_push St.get_put St.live AV.fit AV.cells AV.one fieldOf afieldAddr aload ofCells astore splice May eqres env_ti FinP FinZ FinW ares aresL ares1 Fns.addP Fns.add Fns.a0 Fns.a1 Fns.a2 Fns.a3 Fns.a4 abuiltin alenOk alen aindex elemOfT elemId abuildSlice afill chunks ard aappend isSS AV.isStr aminmax placesOf abuild afield aidx isStrD isStrDesc astrop aslice asliceOk abound arange anext aextract aunop aeq AV.ck avseq aveq aconv aconvert onB_t onB_f List.range_succ ti0 ti1 ti2 ti3 ti4 ti5 ti6 ti7 ti8 ti9 ti10 ti11 ti12 ti13 ti14 ti15 ti16 ti17 ti18 ti19 ti20 ti21 ti22 ti23 ti24 ti25 ti26 ti27 ti28 ti29 ti30 ti31 ti32 ti33 ti34 ti35 ti36 ti37 ti38 ti39 ti40 ti41 ti42 ti43 ti44 ti45 ti46 ti47 ti48 ti49 ti50 ti51 ti52 ti53 ti54 ti55 ti56 ti57 ti58 ti59 ti60 ti61 ti62 ti63 ti64 ti65 ti66 ti67 ti68 ti69 ti70 ti71 ti72 ti73 ti74 ti75 ti76 ti77 ti78 ti79 ti80 ti81 ti82 ti83 ti84 ti85 ti86 ti87 ti88 ti89 ti90 ti91 ti92 ti93 ti94 ti95 ti96 ti97 ti98 ti99 ti100 ti101 ti102 ti103 ti104 ti105 ti106 ti107 ti108 ti109 ti110 ti111 ti112 ti113 ti114 ti115 ti116 ti117 ti118 ti119 ti120 ti121 ti122 ti123 ti124 ti125 ti126 ti127 ti128 ti129 ti130 ti131 ti132 ti133 ti134 ti135 ti136 ti137 ti138 ti139 ti140 ti141 ti142 ti143 ti144 ti145 ti146 ti147
abbrev rowO (D : Rows0) : AObj := .row 1 (true, 33) (encD D)
theorem belowO (n : Nat) (D : Rows0) : OBelow n (rowO D) := by
  refine .row _ _ _ fun i j x hx => ?_
  unfold get2 encD at hx
  cases h : (D.map Rw)[i]? with
  | none => simp [h] at hx
  | some e =>
    simp [h] at hx
    obtain ⟨t, ht, rfl⟩ := List.mem_map.1 (List.mem_of_getElem? h)
    unfold Rw at hx
    cases j with
    | zero =>
      simp at hx; subst hx
      have : Below n (.sl (t.map V.cs)) := by simp [V.cs]
      exact this
    | succ j => simp at hx
/-- What a function that writes one row of rows leaves. -/
theorem finRow {E : Env} {rs : Array ResultVar} {id : Nat} {D : Rows0} {T : Slots} {e : Exit} (he : e = .normal ∨ e = .ret) (hid : id < s.nx) (hr : rs = #[]) :
    FinW E rs (fun i => i ∈ [id]) s (.tup []) (s.put id (rowO D)) e T (s.put id (rowO D)) := by
  subst hr
  refine ⟨he, rfl, .tup _ fun i x hx => by simp at hx, Nat.le_refl _, Nat.le_refl _, fun hsame => ⟨fun j hj => rfl, fun j hj hm o ho => ?_⟩⟩
  rcases hm with hm | hm
  · simp at hm
    subst hm
    rw [St.get_put_same] at ho
    cases ho
    exact belowO _ _
  · have : j < s.nx := hj
    omega
set_option maxRecDepth 20000 in
set_option maxHeartbeats 4000000 in
theorem ft83 {id : Nat} (D : Rows0) (hid : id < s.nx) (hs : s.get id = some (rowO D)) (f : FuncId) (a b n : Nat) (ha : a + n ≤ D.length) (hb : b + n ≤ D.length) (hne : a ≠ b) (hl : D.length < 1073741824) :
    FT (env K gw) (fun i => i ∈ [id]) 87 [.ls id 0 D.length, .int .i64 a, .int .i64 b, .int .i64 n, .fn (.func f) [] []] s (.tup []) (s.put id (rowO (swapR n D a b))) := by
  refine FT.own (fn := Tryd.f87) F0_ok mixed Tryd.func87 (by kernel_rfl) (by rfl) rfl rfl (by simp) (by kernel_rfl) fun μ w => ?_
  repeat' (first
    | refine WP.t ?_ | refine WP.k ?_ | refine WP.e ?_ | refine Qn ?_ | refine Qr ?_ | refine Qe ?_ | refine Bn ?_ | refine Br ?_ | refine Be ?_ | refine Bx (by decide) ?_
    | (refine RS.nl ?_; refine hk _ _ ?_; clear hk k)
    | ((first | refine RS.st fun A B hA hB => ?_ | refine RQ.st fun A B hA hB => ?_); simp [F0, onW_t, onW_f, onV_s]; first | ((first | refine hA _ _ _ ?_ ?_ | refine hA _ _ _ ?_ (by first | exact .inl rfl | exact .inr (by decide)) ?_); (focus (simp [F0] <;> omega)); clear hA hB A B) | (refine hB ?_; clear hA hB A B) | (refine onV_if ?_ ?_; (focus (first | omega | (refine ⟨?_, ?_⟩ <;> omega))); simp only [onV_s]; (first | refine hA _ _ _ ?_ ?_ | refine hA _ _ _ ?_ (by first | exact .inl rfl | exact .inr (by decide)) ?_); (focus (simp [F0] <;> omega)); clear hA hB A B))
    | (refine RQ.nl ?_; refine hk _ _ ?_; clear hk k)
    | refine WP.sr fun k hk => ?_ | refine WP.r fun k hk => ?_
    | refine WP.sd _ rfl fun k hk => ?_ | refine WP.d _ rfl fun k hk => ?_
    | (refine WP.cc fun A B hA hB => ?_; simp [F0, onB_t, onB_f]; first | (refine hA ?_; clear hA hB A B) | (refine hB ?_; clear hA hB A B) | (refine onB_if (fun h => hA ?_) (fun h => hB ?_) <;> clear hA hB A B))
    | refine WP.q ?_ | refine WP.b ?_)
  refine WP_loop (fun m T s' => ∃ (i : Nat) (D' : Rows0), m + i = n ∧ s' = s.put id (rowO D') ∧ D'.length = D.length ∧ swapR (n - i) D' (a + i) (b + i) = swapR n D a b ∧ T.get 0 = .ls id 0 D.length ∧ T.get 1 = .int .i64 a ∧ T.get 2 = .int .i64 b ∧ T.get 3 = .int .i64 n ∧ T.get 10 = .int .i64 i)
    n ⟨0, D, by simp, (St.put_self hs).symm, rfl, by simp, by simp, by simp, by simp, by simp, by simp⟩ ?_
  rintro m T s' ⟨i, D', hm, rfl, hDl, hD, g0, g1, g2, g3, g10⟩
  by_cases hi : i < n
  · have w1 : IntKind.i64.wrap ((a : Int) + (i : Int)) = (a : Int) + (i : Int) := wrap64 (by omega) (by omega)
    have w2 : IntKind.i64.wrap ((b : Int) + (i : Int)) = (b : Int) + (i : Int) := wrap64 (by omega) (by omega)
    have w3 : IntKind.i64.wrap ((i : Int) + 1) = (i : Int) + 1 := wrap64 (by omega) (by omega)
    have hii : (i : Int) < (n : Int) := by omega
    have p1 : 0 ≤ (b : Int) + (i : Int) := by omega
    have p2 : (b : Int) + (i : Int) < (D.length : Int) := by omega
    have p3 : ((b : Int) + (i : Int)).toNat = b + i := by omega
    have p4 : 0 ≤ (a : Int) + (i : Int) := by omega
    have p5 : (a : Int) + (i : Int) < (D.length : Int) := by omega
    have p6 : ((a : Int) + (i : Int)).toNat = a + i := by omega
    have ia : a + i < D'.length := by omega
    have ib : b + i < D'.length := by omega
    have hx := encD_get ia
    have hy := encD_get ib
    have hsw : swp D' (a + i) (b + i) = (D'.set (a + i) D'[b + i]).set (b + i) D'[a + i] := swp_of ia ib
    generalize D'[a + i] = x at *
    generalize D'[b + i] = y at *
    have hst : ∀ v, ((encD D').set (a + i) v)[b + i]? = some (Rw y) := fun v => by rw [List.getElem?_set_ne (by omega)]; exact hy
    repeat' (first
      | refine WP.sw 22 (by decide) (by decide) fun k hk => ?_
      | refine WP.w 22 (by decide) (by decide) fun k hk => ?_
      | refine WP.t ?_ | refine WP.k ?_ | refine WP.e ?_ | refine Qn ?_ | refine Qr ?_ | refine Qe ?_ | refine Bn ?_ | refine Br ?_ | refine Be ?_ | refine Bx (by decide) ?_
      | (refine RS.nl ?_; refine hk _ _ ?_; clear hk k)
      | ((first | refine RS.st fun A B hA hB => ?_ | refine RQ.st fun A B hA hB => ?_); simp [F0, g0, g1, g2, g3, g10, hi, hii, w1, w2, w3, ti36, ti33, elemOfT, aindex, p1, p2, p3, p4, p5, p6, hx, hy, St.get_put_same, hst, onW_t, onW_f, onV_s]; first | ((first | refine hA _ _ _ ?_ ?_ | refine hA _ _ _ ?_ (by first | exact .inl rfl | exact .inr (by decide)) ?_); (focus (simp [F0, g0, g1, g2, g3, g10, hi, hii, w1, w2, w3, ti36, ti33, elemOfT, aindex, p1, p2, p3, p4, p5, p6, hx, hy, St.get_put_same, hst] <;> omega)); clear hA hB A B) | (refine hB ?_; clear hA hB A B) | (refine onV_if ?_ ?_; (focus (first | omega | (refine ⟨?_, ?_⟩ <;> omega))); simp only [onV_s]; (first | refine hA _ _ _ ?_ ?_ | refine hA _ _ _ ?_ (by first | exact .inl rfl | exact .inr (by decide)) ?_); (focus (simp [F0, g0, g1, g2, g3, g10, hi, hii, w1, w2, w3, ti36, ti33, elemOfT, aindex, p1, p2, p3, p4, p5, p6, hx, hy, St.get_put_same, hst] <;> omega)); clear hA hB A B))
      | (refine RQ.nl ?_; refine hk _ _ ?_; clear hk k)
      | (refine RW.nl ?_ ?_; (focus (first | exact .inl (by decide) | (refine .inr ?_; (simp [F0, g0, g1, g2, g3, g10, hi, hii, w1, w2, w3, ti36, ti33, elemOfT, aindex, p1, p2, p3, p4, p5, p6, hx, hy, St.get_put_same, hst] <;> omega)))); refine hk _ _ ?_; clear hk k)
      | (refine RW.st ?_ fun A B hA hB => ?_; (focus (first | exact .inl (by decide) | (refine .inr ?_; (simp [F0, g0, g1, g2, g3, g10, hi, hii, w1, w2, w3, ti36, ti33, elemOfT, aindex, p1, p2, p3, p4, p5, p6, hx, hy, St.get_put_same, hst] <;> omega)))); simp [F0, g0, g1, g2, g3, g10, hi, hii, w1, w2, w3, ti36, ti33, elemOfT, aindex, p1, p2, p3, p4, p5, p6, hx, hy, St.get_put_same, hst, onW_t, onW_f, onV_s]; first | (refine hA _ _ _ ?_ ?_ ?_ ?_; (focus (simp [F0, g0, g1, g2, g3, g10, hi, hii, w1, w2, w3, ti36, ti33, elemOfT, aindex, p1, p2, p3, p4, p5, p6, hx, hy, St.get_put_same, hst] <;> omega)); (focus (first | exact .inl (by decide) | exact .inr (.inl rfl) | exact .inr (.inr rfl))); (focus (first | exact .inl (by decide) | exact .inr (.inl (by decide)) | (refine .inr (.inr fun s2 hs2 => ?_); have hs2n := hs2.nx; simp only [Keep_cons, Keep_nil] at hs2; simp [F0, g0, g1, g2, g3, g10, hi, hii, w1, w2, w3, ti36, ti33, elemOfT, aindex, p1, p2, p3, p4, p5, p6, hx, hy, St.get_put_same, hst, hs2, hs2n]; done))); clear hA hB A B) | (refine hB ?_; clear hA hB A B))
      | refine WP.sr fun k hk => ?_ | refine WP.r fun k hk => ?_
      | (refine WP.swK [] ?_ fun k hk => ?_; (focus (decide))) | (refine WP.wK [] ?_ fun k hk => ?_; (focus (decide))) | refine WP.sd _ rfl fun k hk => ?_ | refine WP.d _ rfl fun k hk => ?_
      | (refine WP.cc fun A B hA hB => ?_; simp [F0, g0, g1, g2, g3, g10, hi, hii, w1, w2, w3, ti36, ti33, elemOfT, aindex, p1, p2, p3, p4, p5, p6, hx, hy, St.get_put_same, hst, onB_t, onB_f]; first | (refine hA ?_; clear hA hB A B) | (refine hB ?_; clear hA hB A B) | (refine onB_if (fun h => hA ?_) (fun h => hB ?_) <;> clear hA hB A B))
      | refine WP.q ?_ | refine WP.b ?_)
    refine ⟨m - 1, by omega, i + 1, swp D' (a + i) (b + i), by omega, ?_, by rw [swp_length]; exact hDl, ?_, by simp [g0], by simp [g1], by simp [g2], by simp [g3], by simp⟩
    · rw [St.put_put, St.put_put, hsw]
      simp only [Rw_tail, Rw_def, encD_set]
    · have e : n - i = (n - (i + 1)) + 1 := by omega
      rw [e] at hD
      exact hD
  · have hii : ¬ (i : Int) < (n : Int) := by omega
    have hie : n - i = 0 := by omega
    rw [hie] at hD
    repeat' (first
      | refine WP.t ?_ | refine WP.k ?_ | refine WP.e ?_ | refine Qn ?_ | refine Qr ?_ | refine Qe ?_ | refine Bn ?_ | refine Br ?_ | refine Be ?_ | refine Bx (by decide) ?_
      | (refine RS.nl ?_; refine hk _ _ ?_; clear hk k)
      | ((first | refine RS.st fun A B hA hB => ?_ | refine RQ.st fun A B hA hB => ?_); simp [F0, g0, g1, g2, g3, g10, hi, hii, onW_t, onW_f, onV_s]; first | ((first | refine hA _ _ _ ?_ ?_ | refine hA _ _ _ ?_ (by first | exact .inl rfl | exact .inr (by decide)) ?_); (focus (simp [F0, g0, g1, g2, g3, g10, hi, hii] <;> omega)); clear hA hB A B) | (refine hB ?_; clear hA hB A B) | (refine onV_if ?_ ?_; (focus (first | omega | (refine ⟨?_, ?_⟩ <;> omega))); simp only [onV_s]; (first | refine hA _ _ _ ?_ ?_ | refine hA _ _ _ ?_ (by first | exact .inl rfl | exact .inr (by decide)) ?_); (focus (simp [F0, g0, g1, g2, g3, g10, hi, hii] <;> omega)); clear hA hB A B))
      | (refine RQ.nl ?_; refine hk _ _ ?_; clear hk k)
      | refine WP.sr fun k hk => ?_ | refine WP.r fun k hk => ?_
      | refine WP.sd _ rfl fun k hk => ?_ | refine WP.d _ rfl fun k hk => ?_
      | (refine WP.cc fun A B hA hB => ?_; simp [F0, g0, g1, g2, g3, g10, hi, hii, onB_t, onB_f]; first | (refine hA ?_; clear hA hB A B) | (refine hB ?_; clear hA hB A B) | (refine onB_if (fun h => hA ?_) (fun h => hB ?_) <;> clear hA hB A B))
      | refine WP.q ?_ | refine WP.b ?_)
    rw [← hD]
    exact finRow (.inl rfl) hid rfl
end
end Go.Am
namespace Go.Am
open Go.Proofs
def gD (D : Rows0) (i : Nat) : List V := (D[i]?).getD []
theorem gD_of {D : Rows0} {i : Nat} (h : i < D.length) : gD D i = D[i] := by unfold gD; rw [List.getElem?_eq_getElem h]; rfl
def okD (D : Rows0) : Prop := ∀ t ∈ D, t.length < LIM
theorem swp_ok {D : Rows0} (h : okD D) (i j : Nat) : okD (swp D i j) := by
  unfold swp
  split
  · rename_i x y hx hy
    intro t ht
    rcases List.mem_or_eq_of_mem_set ht with ht | rfl
    · rcases List.mem_or_eq_of_mem_set ht with ht | rfl
      · exact h t ht
      · exact h _ (List.mem_of_getElem? hy)
    · exact h _ (List.mem_of_getElem? hx)
  · exact h
def insJ (a : Nat) : Nat → Rows0 → Rows0
  | 0, D => D
  | j + 1, D => if a < j + 1 ∧ cmpT (gD D (j + 1)) (gD D j) < 0 then insJ a j (swp D (j + 1) j) else D
def insA (a : Nat) : Nat → Nat → Rows0 → Rows0
  | 0, _, D => D
  | c + 1, i, D => insA a c (i + 1) (insJ a i D)
def insertion (a b : Nat) (D : Rows0) : Rows0 := insA a (b - (a + 1)) (a + 1) D
@[simp] theorem insJ_length (a : Nat) : ∀ (j : Nat) (D : Rows0), (insJ a j D).length = D.length
  | 0, D => rfl
  | j + 1, D => by
    unfold insJ
    split
    · rw [insJ_length, swp_length]
    · rfl
@[simp] theorem insA_length (a : Nat) : ∀ (c i : Nat) (D : Rows0), (insA a c i D).length = D.length
  | 0, _, D => rfl
  | c + 1, i, D => by unfold insA; rw [insA_length, insJ_length]
theorem insJ_ok {a : Nat} : ∀ (j : Nat) {D : Rows0}, okD D → okD (insJ a j D)
  | 0, D, h => h
  | j + 1, D, h => by
    unfold insJ
    split
    · exact insJ_ok j (swp_ok h _ _)
    · exact h
theorem insA_ok {a : Nat} : ∀ (c i : Nat) {D : Rows0}, okD D → okD (insA a c i D)
  | 0, _, D, h => h
  | c + 1, i, D, h => by unfold insA; exact insA_ok c (i + 1) (insJ_ok i h)
section
variable {K : Nat} {gw : World} {s : St}
attribute [local simp] awanted xop zOf zrow aop ev T0 Slots.put Slots.set Slots.get awr WOk AV.may ofConst abinop aint isConst St.get_push St.get_put St.live AV.fit AV.cells AV.one fieldOf afieldAddr aload ofCells astore splice May eqres env_ti FinP FinZ FinW ares aresL ares1 Fns.addP Fns.add Fns.a0 Fns.a1 Fns.a2 Fns.a3 Fns.a4 abuiltin alenOk alen aindex elemOfT elemId abuildSlice afill chunks ard aappend isSS AV.isStr aminmax placesOf abuild afield aidx isStrD isStrDesc astrop aslice asliceOk abound arange anext aextract aunop aeq AV.ck avseq aveq aconv aconvert onB_t onB_f List.range_succ ti0 ti1 ti2 ti3 ti4 ti5 ti6 ti7 ti8 ti9 ti10 ti11 ti12 ti13 ti14 ti15 ti16 ti17 ti18 ti19 ti20 ti21 ti22 ti23 ti24 ti25 ti26 ti27 ti28 ti29 ti30 ti31 ti32 ti33 ti34 ti35 ti36 ti37 ti38 ti39 ti40 ti41 ti42 ti43 ti44 ti45 ti46 ti47 ti48 ti49 ti50 ti51 ti52 ti53 ti54 ti55 ti56 ti57 ti58 ti59 ti60 ti61 ti62 ti63 ti64 ti65 ti66 ti67 ti68 ti69 ti70 ti71 ti72 ti73 ti74 ti75 ti76 ti77 ti78 ti79 ti80 ti81 ti82 ti83 ti84 ti85 ti86 ti87 ti88 ti89 ti90 ti91 ti92 ti93 ti94 ti95 ti96 ti97 ti98 ti99 ti100 ti101 ti102 ti103 ti104 ti105 ti106 ti107 ti108 ti109 ti110 ti111 ti112 ti113 ti114 ti115 ti116 ti117 ti118 ti119 ti120 ti121 ti122 ti123 ti124 ti125 ti126 ti127 ti128 ti129 ti130 ti131 ti132 ti133 ti134 ti135 ti136 ti137 ti138 ti139 ti140 ti141 ti142 ti143 ti144 ti145 ti146 ti147
set_option maxRecDepth 20000 in
set_option maxHeartbeats 8000000 in
theorem ft63 (hK : 0 < K) (hT : Tens gw) {id : Nat} (D : Rows0) (hid : id < s.nx) (hs : s.get id = some (rowO D)) (a b : Nat) (hb : b ≤ D.length) (hl : D.length < 1073741824) (ha : a < 1073741824) (hok : okD D) :
    FT (env K gw) (fun i => i ∈ [id]) 72 [.ls id 0 D.length, .int .i64 a, .int .i64 b, .fn (.func 60) [] []] s (.tup []) (s.put id (rowO (insertion a b D))) := by
  refine FT.own (fn := Tryd.f72) (F12_ok hK hT) mixed Tryd.func72 (by kernel_rfl) (by rfl) rfl rfl (by simp) (by kernel_rfl) fun μ w => ?_
  have w0 : IntKind.i64.wrap ((a : Int) + 1) = (a : Int) + 1 := wrap64 (by omega) (by omega)
  repeat' (first
    | refine WP.t ?_ | refine WP.k ?_ | refine WP.e ?_ | refine Qn ?_ | refine Qr ?_ | refine Qe ?_ | refine Bn ?_ | refine Br ?_ | refine Be ?_ | refine Bx (by decide) ?_
    | (refine RS.nl ?_; refine hk _ _ ?_; clear hk k)
    | ((first | refine RS.st fun A B hA hB => ?_ | refine RQ.st fun A B hA hB => ?_); simp [F0, w0, onW_t, onW_f, onV_s]; first | ((first | refine hA _ _ _ ?_ ?_ | refine hA _ _ _ ?_ (by first | exact .inl rfl | exact .inr (by decide)) ?_); (focus (simp [F0, w0] <;> omega)); clear hA hB A B) | (refine hB ?_; clear hA hB A B) | (refine onV_if ?_ ?_; (focus (first | omega | (refine ⟨?_, ?_⟩ <;> omega))); simp only [onV_s]; (first | refine hA _ _ _ ?_ ?_ | refine hA _ _ _ ?_ (by first | exact .inl rfl | exact .inr (by decide)) ?_); (focus (simp [F0, w0] <;> omega)); clear hA hB A B))
    | (refine RQ.nl ?_; refine hk _ _ ?_; clear hk k)
    | refine WP.sr fun k hk => ?_ | refine WP.r fun k hk => ?_
    | refine WP.sd _ rfl fun k hk => ?_ | refine WP.d _ rfl fun k hk => ?_
    | (refine WP.cc fun A B hA hB => ?_; simp [F0, w0, onB_t, onB_f]; first | (refine hA ?_; clear hA hB A B) | (refine hB ?_; clear hA hB A B) | (refine onB_if (fun h => hA ?_) (fun h => hB ?_) <;> clear hA hB A B))
    | refine WP.q ?_ | refine WP.b ?_)
  refine WP_loop (fun m T s' => ∃ (i : Nat) (D' : Rows0), m = b - i ∧ a + 1 ≤ i ∧ s' = s.put id (rowO D') ∧ D'.length = D.length ∧ okD D' ∧ insA a (b - i) i D' = insertion a b D ∧ T.get 0 = .ls id 0 D.length ∧ T.get 1 = .int .i64 a ∧ T.get 2 = .int .i64 b ∧ T.get 3 = .fn (.func 60) [] [] ∧ T.get 8 = .int .i64 i)
    (b - (a + 1)) ⟨a + 1, D, rfl, Nat.le_refl _, (St.put_self hs).symm, rfl, hok, rfl, by simp, by simp, by simp, by simp, by simp⟩ ?_
  rintro m T s' ⟨i, D', hmi, hai, rfl, hDl, hok', hD, g0, g1, g2, g3, g8⟩
  by_cases hi : i < b
  · have hii : (i : Int) < (b : Int) := by omega
    have w3 : IntKind.i64.wrap ((i : Int) + 1) = (i : Int) + 1 := wrap64 (by omega) (by omega)
    repeat' (first
      | refine WP.t ?_ | refine WP.k ?_ | refine WP.e ?_ | refine Qn ?_ | refine Qr ?_ | refine Qe ?_ | refine Bn ?_ | refine Br ?_ | refine Be ?_ | refine Bx (by decide) ?_
      | (refine RS.nl ?_; refine hk _ _ ?_; clear hk k)
      | ((first | refine RS.st fun A B hA hB => ?_ | refine RQ.st fun A B hA hB => ?_); simp [F0, g0, g1, g2, g3, g8, hi, hii, w3, onW_t, onW_f, onV_s]; first | ((first | refine hA _ _ _ ?_ ?_ | refine hA _ _ _ ?_ (by first | exact .inl rfl | exact .inr (by decide)) ?_); (focus (simp [F0, g0, g1, g2, g3, g8, hi, hii, w3] <;> omega)); clear hA hB A B) | (refine hB ?_; clear hA hB A B) | (refine onV_if ?_ ?_; (focus (first | omega | (refine ⟨?_, ?_⟩ <;> omega))); simp only [onV_s]; (first | refine hA _ _ _ ?_ ?_ | refine hA _ _ _ ?_ (by first | exact .inl rfl | exact .inr (by decide)) ?_); (focus (simp [F0, g0, g1, g2, g3, g8, hi, hii, w3] <;> omega)); clear hA hB A B))
      | (refine RQ.nl ?_; refine hk _ _ ?_; clear hk k)
      | refine WP.sr fun k hk => ?_ | refine WP.r fun k hk => ?_
      | refine WP.sd _ rfl fun k hk => ?_ | refine WP.d _ rfl fun k hk => ?_
      | (refine WP.cc fun A B hA hB => ?_; simp [F0, g0, g1, g2, g3, g8, hi, hii, w3, onB_t, onB_f]; first | (refine hA ?_; clear hA hB A B) | (refine hB ?_; clear hA hB A B) | (refine onB_if (fun h => hA ?_) (fun h => hB ?_) <;> clear hA hB A B))
      | refine WP.q ?_ | refine WP.b ?_)
    refine WP_loop (fun m2 T2 s2 => ∃ (j : Nat) (D2 : Rows0), m2 = j ∧ a ≤ j ∧ j ≤ i ∧ s2 = s.put id (rowO D2) ∧ D2.length = D.length ∧ okD D2 ∧ insJ a j D2 = insJ a i D' ∧ T2.get 0 = .ls id 0 D.length ∧ T2.get 1 = .int .i64 a ∧ T2.get 2 = .int .i64 b ∧ T2.get 3 = .fn (.func 60) [] [] ∧ T2.get 8 = .int .i64 i ∧ T2.get 9 = .int .i64 j)
      i ⟨i, D', rfl, by omega, Nat.le_refl _, rfl, hDl, hok', rfl, by simp [g0], by simp [g1], by simp [g2], by simp [g3], by simp [g8], by simp⟩ ?_
    rintro m2 T2 s2 ⟨j, D2, hmj, haj, hji, rfl, hD2l, hok2, hD2, k0, k1, k2, k3, k8, k9⟩
    by_cases hja : a < j
    · obtain ⟨q, rfl⟩ : ∃ q, j = q + 1 := ⟨j - 1, by omega⟩
      have hjj : (a : Int) < (q : Int) + 1 := by omega
      have i1 : q + 1 < D2.length := by omega
      have i2 : q < D2.length := by omega
      have w4 : IntKind.i64.wrap ((q : Int) + 1 - 1) = (q : Int) := by rw [Int.add_sub_cancel]; exact wrap64 (by omega) (by omega)
      have w4' : IntKind.i64.wrap (q : Int) = (q : Int) := wrap64 (by omega) (by omega)
      have p1 : 0 ≤ (q : Int) + 1 := by omega
      have p2 : (q : Int) + 1 < (D.length : Int) := by omega
      have p3 : ((q : Int) + 1).toNat = q + 1 := by omega
      have p5 : (q : Int) < (D.length : Int) := by omega
      have hx := encD_get i1
      have hy := encD_get i2
      have ox := hok2 _ (List.getElem_mem i1)
      have oy := hok2 _ (List.getElem_mem i2)
      have e1 := gD_of i1
      have e2 := gD_of i2
      have hsw : swp D2 (q + 1) q = (D2.set (q + 1) D2[q]).set q D2[q + 1] := swp_of i1 i2
      have hst : ∀ v, ((encD D2).set (q + 1) v)[q]? = some (Rw D2[q]) := fun v => by rw [List.getElem?_set_ne (by omega)]; exact hy
      have hstep : insJ a (q + 1) D2 = if a < q + 1 ∧ cmpT (gD D2 (q + 1)) (gD D2 q) < 0 then insJ a q (swp D2 (q + 1) q) else D2 := rfl
      rw [e1, e2] at hstep
      generalize D2[q + 1] = x at *
      generalize D2[q] = y at *
      have rwx : Rw x = [.sl (x.map V.cs)] := rfl
      have rwy : Rw y = [.sl (y.map V.cs)] := rfl
      by_cases hc : cmpT x y < 0
      · rw [if_pos ⟨hja, hc⟩] at hstep
        repeat' (first
          | refine WP.sw 16 (by decide) (by decide) fun k hk => ?_
          | refine WP.w 16 (by decide) (by decide) fun k hk => ?_
          | refine WP.t ?_ | refine WP.k ?_ | refine WP.e ?_ | refine Qn ?_ | refine Qr ?_ | refine Qe ?_ | refine Bn ?_ | refine Br ?_ | refine Be ?_ | refine Bx (by decide) ?_
          | (refine RS.nl ?_; refine hk _ _ ?_; clear hk k)
          | ((first | refine RS.st fun A B hA hB => ?_ | refine RQ.st fun A B hA hB => ?_); simp [F12, F12, F11, F10, F9, F8, F7, F6, F5, F4, pCmpT, k0, k1, k2, k3, k8, k9, hjj, w4, w4', p1, p2, p3, p5, hx, hy, ox, oy, hc, ti36, ti33, elemOfT, aindex, St.get_put_same, hst, onW_t, onW_f, onV_s]; first | ((first | refine hA _ _ _ ?_ ?_ | refine hA _ _ _ ?_ (by first | exact .inl rfl | exact .inr (by decide)) ?_); (focus (simp [F12, F12, F11, F10, F9, F8, F7, F6, F5, F4, pCmpT, k0, k1, k2, k3, k8, k9, hjj, w4, w4', p1, p2, p3, p5, hx, hy, ox, oy, hc, ti36, ti33, elemOfT, aindex, St.get_put_same, hst] <;> omega)); clear hA hB A B) | (refine hB ?_; clear hA hB A B) | (refine onV_if ?_ ?_; (focus (first | omega | (refine ⟨?_, ?_⟩ <;> omega))); simp only [onV_s]; (first | refine hA _ _ _ ?_ ?_ | refine hA _ _ _ ?_ (by first | exact .inl rfl | exact .inr (by decide)) ?_); (focus (simp [F12, F12, F11, F10, F9, F8, F7, F6, F5, F4, pCmpT, k0, k1, k2, k3, k8, k9, hjj, w4, w4', p1, p2, p3, p5, hx, hy, ox, oy, hc, ti36, ti33, elemOfT, aindex, St.get_put_same, hst] <;> omega)); clear hA hB A B))
          | (refine RQ.nl ?_; refine hk _ _ ?_; clear hk k)
          | (refine RW.nl ?_ ?_; (focus (first | exact .inl (by decide) | (refine .inr ?_; (simp [F12, F12, F11, F10, F9, F8, F7, F6, F5, F4, pCmpT, k0, k1, k2, k3, k8, k9, hjj, w4, w4', p1, p2, p3, p5, hx, hy, ox, oy, hc, ti36, ti33, elemOfT, aindex, St.get_put_same, hst] <;> omega)))); refine hk _ _ ?_; clear hk k)
          | (refine RW.st ?_ fun A B hA hB => ?_; (focus (first | exact .inl (by decide) | (refine .inr ?_; (simp [F12, F12, F11, F10, F9, F8, F7, F6, F5, F4, pCmpT, k0, k1, k2, k3, k8, k9, hjj, w4, w4', p1, p2, p3, p5, hx, hy, ox, oy, hc, ti36, ti33, elemOfT, aindex, St.get_put_same, hst] <;> omega)))); simp [F12, F12, F11, F10, F9, F8, F7, F6, F5, F4, pCmpT, k0, k1, k2, k3, k8, k9, hjj, w4, w4', p1, p2, p3, p5, hx, hy, ox, oy, hc, ti36, ti33, elemOfT, aindex, St.get_put_same, hst, onW_t, onW_f, onV_s]; first | (refine hA _ _ _ ?_ ?_ ?_ ?_; (focus (simp [F12, F12, F11, F10, F9, F8, F7, F6, F5, F4, pCmpT, k0, k1, k2, k3, k8, k9, hjj, w4, w4', p1, p2, p3, p5, hx, hy, ox, oy, hc, ti36, ti33, elemOfT, aindex, St.get_put_same, hst] <;> omega)); (focus (first | exact .inl (by decide) | exact .inr (.inl rfl) | exact .inr (.inr rfl))); (focus (first | exact .inl (by decide) | exact .inr (.inl (by decide)) | (refine .inr (.inr fun s2 hs2 => ?_); have hs2n := hs2.nx; simp only [Keep_cons, Keep_nil] at hs2; simp [F12, F12, F11, F10, F9, F8, F7, F6, F5, F4, pCmpT, k0, k1, k2, k3, k8, k9, hjj, w4, w4', p1, p2, p3, p5, hx, hy, ox, oy, hc, ti36, ti33, elemOfT, aindex, St.get_put_same, hst, hs2, hs2n]; done))); clear hA hB A B) | (refine hB ?_; clear hA hB A B))
          | refine WP.sr fun k hk => ?_ | refine WP.r fun k hk => ?_
          | (refine WP.swK [] ?_ fun k hk => ?_; (focus (decide))) | (refine WP.wK [] ?_ fun k hk => ?_; (focus (decide))) | refine WP.sd _ rfl fun k hk => ?_ | refine WP.d _ rfl fun k hk => ?_
          | (refine WP.cc fun A B hA hB => ?_; simp [F12, F12, F11, F10, F9, F8, F7, F6, F5, F4, pCmpT, k0, k1, k2, k3, k8, k9, hjj, w4, w4', p1, p2, p3, p5, hx, hy, ox, oy, hc, ti36, ti33, elemOfT, aindex, St.get_put_same, hst, onB_t, onB_f]; first | (refine hA ?_; clear hA hB A B) | (refine hB ?_; clear hA hB A B) | (refine onB_if (fun h => hA ?_) (fun h => hB ?_) <;> clear hA hB A B))
          | refine WP.q ?_ | refine WP.b ?_)
        refine ⟨q, by omega, q, swp D2 (q + 1) q, rfl, by omega, by omega, ?_, by rw [swp_length]; exact hD2l, swp_ok hok2 _ _, by rw [← hD2, hstep], by simp [k0], by simp [k1], by simp [k2], by simp [k3], by simp [k8], by simp⟩
        rw [St.put_put, St.put_put, hsw]
        simp only [Rw_def, encD_set]
      · rw [if_neg (fun h => hc h.2)] at hstep
        rw [hstep] at hD2
        repeat' (first
          | refine WP.t ?_ | refine WP.k ?_ | refine WP.e ?_ | refine Qn ?_ | refine Qr ?_ | refine Qe ?_ | refine Bn ?_ | refine Br ?_ | refine Be ?_ | refine Bx (by decide) ?_
          | (refine RS.nl ?_; refine hk _ _ ?_; clear hk k)
          | ((first | refine RS.st fun A B hA hB => ?_ | refine RQ.st fun A B hA hB => ?_); simp [F12, F12, F11, F10, F9, F8, F7, F6, F5, F4, pCmpT, k0, k1, k2, k3, k8, k9, hjj, w4, w4', p1, p2, p3, p5, hx, hy, ox, oy, hc, ti36, ti33, elemOfT, aindex, St.get_put_same, hst, onW_t, onW_f, onV_s]; first | ((first | refine hA _ _ _ ?_ ?_ | refine hA _ _ _ ?_ (by first | exact .inl rfl | exact .inr (by decide)) ?_); (focus (simp [F12, F12, F11, F10, F9, F8, F7, F6, F5, F4, pCmpT, k0, k1, k2, k3, k8, k9, hjj, w4, w4', p1, p2, p3, p5, hx, hy, ox, oy, hc, ti36, ti33, elemOfT, aindex, St.get_put_same, hst] <;> omega)); clear hA hB A B) | (refine hB ?_; clear hA hB A B) | (refine onV_if ?_ ?_; (focus (first | omega | (refine ⟨?_, ?_⟩ <;> omega))); simp only [onV_s]; (first | refine hA _ _ _ ?_ ?_ | refine hA _ _ _ ?_ (by first | exact .inl rfl | exact .inr (by decide)) ?_); (focus (simp [F12, F12, F11, F10, F9, F8, F7, F6, F5, F4, pCmpT, k0, k1, k2, k3, k8, k9, hjj, w4, w4', p1, p2, p3, p5, hx, hy, ox, oy, hc, ti36, ti33, elemOfT, aindex, St.get_put_same, hst] <;> omega)); clear hA hB A B))
          | (refine RQ.nl ?_; refine hk _ _ ?_; clear hk k)
          | refine WP.sr fun k hk => ?_ | refine WP.r fun k hk => ?_
          | refine WP.sd _ rfl fun k hk => ?_ | refine WP.d _ rfl fun k hk => ?_
          | (refine WP.cc fun A B hA hB => ?_; simp [F12, F12, F11, F10, F9, F8, F7, F6, F5, F4, pCmpT, k0, k1, k2, k3, k8, k9, hjj, w4, w4', p1, p2, p3, p5, hx, hy, ox, oy, hc, ti36, ti33, elemOfT, aindex, St.get_put_same, hst, onB_t, onB_f]; first | (refine hA ?_; clear hA hB A B) | (refine hB ?_; clear hA hB A B) | (refine onB_if (fun h => hA ?_) (fun h => hB ?_) <;> clear hA hB A B))
          | refine WP.q ?_ | refine WP.b ?_)
        refine ⟨b - (i + 1), by omega, i + 1, D2, rfl, by omega, rfl, hD2l, hok2, ?_, by simp [k0], by simp [k1], by simp [k2], by simp [k3], by simp [k8, w3]⟩
        have e : b - i = (b - (i + 1)) + 1 := by omega
        rw [e] at hD
        rw [hD2]
        exact hD
    · have hja2 : ¬ (a : Int) < (j : Int) := by omega
      have hje : insJ a j D2 = D2 := by
        cases j with
        | zero => rfl
        | succ j => unfold insJ; rw [if_neg (fun h => hja h.1)]
      rw [hje] at hD2
      repeat' (first
        | refine WP.t ?_ | refine WP.k ?_ | refine WP.e ?_ | refine Qn ?_ | refine Qr ?_ | refine Qe ?_ | refine Bn ?_ | refine Br ?_ | refine Be ?_ | refine Bx (by decide) ?_
        | (refine RS.nl ?_; refine hk _ _ ?_; clear hk k)
        | ((first | refine RS.st fun A B hA hB => ?_ | refine RQ.st fun A B hA hB => ?_); simp [F0, k0, k1, k2, k3, k8, k9, hja, hja2, w3, onW_t, onW_f, onV_s]; first | ((first | refine hA _ _ _ ?_ ?_ | refine hA _ _ _ ?_ (by first | exact .inl rfl | exact .inr (by decide)) ?_); (focus (simp [F0, k0, k1, k2, k3, k8, k9, hja, hja2, w3] <;> omega)); clear hA hB A B) | (refine hB ?_; clear hA hB A B) | (refine onV_if ?_ ?_; (focus (first | omega | (refine ⟨?_, ?_⟩ <;> omega))); simp only [onV_s]; (first | refine hA _ _ _ ?_ ?_ | refine hA _ _ _ ?_ (by first | exact .inl rfl | exact .inr (by decide)) ?_); (focus (simp [F0, k0, k1, k2, k3, k8, k9, hja, hja2, w3] <;> omega)); clear hA hB A B))
        | (refine RQ.nl ?_; refine hk _ _ ?_; clear hk k)
        | refine WP.sr fun k hk => ?_ | refine WP.r fun k hk => ?_
        | refine WP.sd _ rfl fun k hk => ?_ | refine WP.d _ rfl fun k hk => ?_
        | (refine WP.cc fun A B hA hB => ?_; simp [F0, k0, k1, k2, k3, k8, k9, hja, hja2, w3, onB_t, onB_f]; first | (refine hA ?_; clear hA hB A B) | (refine hB ?_; clear hA hB A B) | (refine onB_if (fun h => hA ?_) (fun h => hB ?_) <;> clear hA hB A B))
        | refine WP.q ?_ | refine WP.b ?_)
      refine ⟨b - (i + 1), by omega, i + 1, D2, rfl, by omega, rfl, hD2l, hok2, ?_, by simp [k0], by simp [k1], by simp [k2], by simp [k3], by simp [k8, w3]⟩
      have e : b - i = (b - (i + 1)) + 1 := by omega
      rw [e] at hD
      rw [hD2]
      exact hD
  · have hii : ¬ (i : Int) < (b : Int) := by omega
    have hie : b - i = 0 := by omega
    rw [hie] at hD
    repeat' (first
      | refine WP.t ?_ | refine WP.k ?_ | refine WP.e ?_ | refine Qn ?_ | refine Qr ?_ | refine Qe ?_ | refine Bn ?_ | refine Br ?_ | refine Be ?_ | refine Bx (by decide) ?_
      | (refine RS.nl ?_; refine hk _ _ ?_; clear hk k)
      | ((first | refine RS.st fun A B hA hB => ?_ | refine RQ.st fun A B hA hB => ?_); simp [F0, g0, g1, g2, g3, g8, hi, hii, onW_t, onW_f, onV_s]; first | ((first | refine hA _ _ _ ?_ ?_ | refine hA _ _ _ ?_ (by first | exact .inl rfl | exact .inr (by decide)) ?_); (focus (simp [F0, g0, g1, g2, g3, g8, hi, hii] <;> omega)); clear hA hB A B) | (refine hB ?_; clear hA hB A B) | (refine onV_if ?_ ?_; (focus (first | omega | (refine ⟨?_, ?_⟩ <;> omega))); simp only [onV_s]; (first | refine hA _ _ _ ?_ ?_ | refine hA _ _ _ ?_ (by first | exact .inl rfl | exact .inr (by decide)) ?_); (focus (simp [F0, g0, g1, g2, g3, g8, hi, hii] <;> omega)); clear hA hB A B))
      | (refine RQ.nl ?_; refine hk _ _ ?_; clear hk k)
      | refine WP.sr fun k hk => ?_ | refine WP.r fun k hk => ?_
      | refine WP.sd _ rfl fun k hk => ?_ | refine WP.d _ rfl fun k hk => ?_
      | (refine WP.cc fun A B hA hB => ?_; simp [F0, g0, g1, g2, g3, g8, hi, hii, onB_t, onB_f]; first | (refine hA ?_; clear hA hB A B) | (refine hB ?_; clear hA hB A B) | (refine onB_if (fun h => hA ?_) (fun h => hB ?_) <;> clear hA hB A B))
      | refine WP.q ?_ | refine WP.b ?_)
    rw [← hD]
    exact finRow (.inl rfl) hid rfl
end
end Go.Am
namespace Go.Am
open Go.Proofs
@[simp] theorem swapR_length : ∀ (n : Nat) (D : Rows0) (a b : Nat), (swapR n D a b).length = D.length
  | 0, _, _, _ => rfl
  | n + 1, D, a, b => by unfold swapR; rw [swapR_length, swp_length]
theorem swapR_ok : ∀ (n : Nat) {D : Rows0} (a b : Nat), okD D → okD (swapR n D a b)
  | 0, _, _, _, h => h
  | n + 1, D, a, b, h => by unfold swapR; exact swapR_ok n _ _ (swp_ok h _ _)
section
variable {K : Nat} {gw : World} {s : St}
attribute [local simp] awanted xop zOf zrow aop ev T0 Slots.put Slots.set Slots.get awr WOk AV.may ofConst abinop aint isConst St.get_push St.get_put St.live AV.fit AV.cells AV.one fieldOf afieldAddr aload ofCells astore splice May eqres env_ti FinP FinZ FinW ares aresL ares1 Fns.addP Fns.add Fns.a0 Fns.a1 Fns.a2 Fns.a3 Fns.a4 abuiltin alenOk alen aindex elemOfT elemId abuildSlice afill chunks ard aappend isSS AV.isStr aminmax placesOf abuild afield aidx isStrD isStrDesc astrop aslice asliceOk abound arange anext aextract aunop aeq AV.ck avseq aveq aconv aconvert onB_t onB_f List.range_succ ti0 ti1 ti2 ti3 ti4 ti5 ti6 ti7 ti8 ti9 ti10 ti11 ti12 ti13 ti14 ti15 ti16 ti17 ti18 ti19 ti20 ti21 ti22 ti23 ti24 ti25 ti26 ti27 ti28 ti29 ti30 ti31 ti32 ti33 ti34 ti35 ti36 ti37 ti38 ti39 ti40 ti41 ti42 ti43 ti44 ti45 ti46 ti47 ti48 ti49 ti50 ti51 ti52 ti53 ti54 ti55 ti56 ti57 ti58 ti59 ti60 ti61 ti62 ti63 ti64 ti65 ti66 ti67 ti68 ti69 ti70 ti71 ti72 ti73 ti74 ti75 ti76 ti77 ti78 ti79 ti80 ti81 ti82 ti83 ti84 ti85 ti86 ti87 ti88 ti89 ti90 ti91 ti92 ti93 ti94 ti95 ti96 ti97 ti98 ti99 ti100 ti101 ti102 ti103 ti104 ti105 ti106 ti107 ti108 ti109 ti110 ti111 ti112 ti113 ti114 ti115 ti116 ti117 ti118 ti119 ti120 ti121 ti122 ti123 ti124 ti125 ti126 ti127 ti128 ti129 ti130 ti131 ti132 ti133 ti134 ti135 ti136 ti137 ti138 ti139 ti140 ti141 ti142 ti143 ti144 ti145 ti146 ti147
def gSwap (xs : List AV) (s : St) : Option (AV × St × List Nat) :=
  match xs with
  | [.ls id 0 n, .int .i64 a, .int .i64 b, .int .i64 c, .fn (.func f) [] []] => if id < s.nx then (match s.get id with
    | some (.row 1 (true, 33) es) => match decD es with
      | some D => if (n = D.length ∧ D.length < 1073741824) ∧ (0 ≤ a ∧ 0 ≤ b ∧ 0 ≤ c) ∧ a + c ≤ D.length ∧ b + c ≤ D.length ∧ a ≠ b then some (.tup [], s.put id (rowO (swapR c.toNat D a.toNat b.toNat)), [id]) else none
      | none => none
    | _ => none) else none
  | _ => none
theorem gSwap_ok {xs : List AV} {r : AV} {s' : St} {l : List Nat} (h : gSwap xs s = some (r, s', l)) : FT (env K gw) (fun id => id ∈ l) 87 xs s r s' := by
  unfold gSwap at h
  split at h
  · rename_i id n a b c f
    split at h
    · rename_i hid
      split at h
      · rename_i hs
        split at h
        · rename_i D hD
          split at h
          · rename_i hc
            cases h
            obtain ⟨⟨rfl, hl⟩, ⟨h1, h2, h3⟩, h4, h5, h6⟩ := hc
            rw [decD_eq hD] at hs
            obtain ⟨a, rfl⟩ : ∃ q : Nat, a = q := ⟨a.toNat, (Int.toNat_of_nonneg h1).symm⟩
            obtain ⟨b, rfl⟩ : ∃ q : Nat, b = q := ⟨b.toNat, (Int.toNat_of_nonneg h2).symm⟩
            obtain ⟨c, rfl⟩ : ∃ q : Nat, c = q := ⟨c.toNat, (Int.toNat_of_nonneg h3).symm⟩
            exact ft83 D hid hs f a b c (by omega) (by omega) (by omega) hl
          · cases h
        · cases h
      · cases h
    · cases h
  · cases h
def gIns (xs : List AV) (s : St) : Option (AV × St × List Nat) :=
  match xs with
  | [.ls id 0 n, .int .i64 a, .int .i64 b, .fn (.func 60) [] []] => if id < s.nx then (match s.get id with
    | some (.row 1 (true, 33) es) => match decD es with
      | some D => if (n = D.length ∧ D.length < 1073741824) ∧ (0 ≤ a ∧ a < 1073741824 ∧ 0 ≤ b ∧ b ≤ D.length) ∧ (D.all fun t => decide (t.length < LIM)) = true then some (.tup [], s.put id (rowO (insertion a.toNat b.toNat D)), [id]) else none
      | none => none
    | _ => none) else none
  | _ => none
theorem okD_all {D : Rows0} : (D.all fun t => decide (t.length < LIM)) = true ↔ okD D := by simp [okD]
theorem gIns_ok (hK : 0 < K) (hT : Tens gw) {xs : List AV} {r : AV} {s' : St} {l : List Nat} (h : gIns xs s = some (r, s', l)) : FT (env K gw) (fun id => id ∈ l) 72 xs s r s' := by
  unfold gIns at h
  split at h
  · rename_i id n a b
    split at h
    · rename_i hid
      split at h
      · rename_i hs
        split at h
        · rename_i D hD
          split at h
          · rename_i hc
            cases h
            obtain ⟨⟨rfl, hl⟩, ⟨h1, h2, h3, h4⟩, h5⟩ := hc
            rw [decD_eq hD] at hs
            obtain ⟨a, rfl⟩ : ∃ q : Nat, a = q := ⟨a.toNat, (Int.toNat_of_nonneg h1).symm⟩
            obtain ⟨b, rfl⟩ : ∃ q : Nat, b = q := ⟨b.toNat, (Int.toNat_of_nonneg h3).symm⟩
            exact ft63 hK hT D hid hs a b (by omega) hl (by omega) (okD_all.1 h5)
          · cases h
        · cases h
      · cases h
    · cases h
  · cases h
def S1 : Fns := (F12.add 87 gSwap).add 72 gIns
theorem S1_ok (hK : 0 < K) (hT : Tens gw) : FOk (env K gw) S1 := ((F12_ok hK hT).add fun xs s r s' l h => gSwap_ok h).add fun xs s r s' l h => gIns_ok hK hT h
def rotF (m : Nat) : Nat → Nat → Nat → Rows0 → Rows0
  | 0, _, _, D => D
  | n + 1, i, j, D => if i = j then swapR i D (m - i) m else if j < i then rotF m n (i - j) j (swapR j D (m - i) m) else rotF m n i (j - i) (swapR i D (m - i) (m + j - i))
set_option maxHeartbeats 8000000 in
theorem ft74 (hK : 0 < K) (hT : Tens gw) {id : Nat} (D : Rows0) (hid : id < s.nx) (hs : s.get id = some (rowO D)) (f : FuncId) (a m b : Nat) (h1 : a < m) (h2 : m < b) (hb : b ≤ D.length) (hl : D.length < 1073741824) :
    FT (env K gw) (fun i => i ∈ [id]) 82 [.ls id 0 D.length, .int .i64 a, .int .i64 m, .int .i64 b, .fn (.func f) [] []] s (.tup []) (s.put id (rowO (rotF m (b - a) (m - a) (b - m) D))) := by
  refine FT.own (fn := Tryd.f82) (S1_ok hK hT) mixed Tryd.func82 (by kernel_rfl) (by rfl) rfl rfl (by simp) (by kernel_rfl) fun μ w => ?_
  have w0 : IntKind.i64.wrap ((m : Int) - (a : Int)) = ((m - a : Nat) : Int) := by rw [wrap64 (by omega) (by omega)]; omega
  have w1 : IntKind.i64.wrap ((b : Int) - (m : Int)) = ((b - m : Nat) : Int) := by rw [wrap64 (by omega) (by omega)]; omega
  generalize hi0 : m - a = i0 at *
  generalize hj0 : b - m = j0 at *
  generalize hR : rotF m (b - a) i0 j0 D = R at *
  repeat' (first
    | refine WP.t ?_ | refine WP.k ?_ | refine WP.e ?_ | refine Qn ?_ | refine Qr ?_ | refine Qe ?_ | refine Bn ?_ | refine Br ?_ | refine Be ?_ | refine Bx (by decide) ?_
    | (refine RS.nl ?_; refine hk _ _ ?_; clear hk k)
    | ((first | refine RS.st fun A B hA hB => ?_ | refine RQ.st fun A B hA hB => ?_); simp [F0, w0, w1, onW_t, onW_f, onV_s]; first | ((first | refine hA _ _ _ ?_ ?_ | refine hA _ _ _ ?_ (by first | exact .inl rfl | exact .inr (by decide)) ?_); (focus (simp [F0, w0, w1] <;> omega)); clear hA hB A B) | (refine hB ?_; clear hA hB A B) | (refine onV_if ?_ ?_; (focus (first | omega | (refine ⟨?_, ?_⟩ <;> omega))); simp only [onV_s]; (first | refine hA _ _ _ ?_ ?_ | refine hA _ _ _ ?_ (by first | exact .inl rfl | exact .inr (by decide)) ?_); (focus (simp [F0, w0, w1] <;> omega)); clear hA hB A B))
    | (refine RQ.nl ?_; refine hk _ _ ?_; clear hk k)
    | refine WP.sr fun k hk => ?_ | refine WP.r fun k hk => ?_
    | refine WP.sd _ rfl fun k hk => ?_ | refine WP.d _ rfl fun k hk => ?_
    | (refine WP.cc fun A B hA hB => ?_; simp [F0, w0, w1, onB_t, onB_f]; first | (refine hA ?_; clear hA hB A B) | (refine hB ?_; clear hA hB A B) | (refine onB_if (fun h => hA ?_) (fun h => hB ?_) <;> clear hA hB A B))
    | refine WP.q ?_ | refine WP.b ?_)
  refine WP_loop (fun q T s' => ∃ (i j : Nat) (D' : Rows0), q = i + j ∧ 0 < i ∧ 0 < j ∧ i ≤ m ∧ m + j ≤ D.length ∧ s' = s.put id (rowO D') ∧ D'.length = D.length ∧ (∃ n, i + j ≤ n ∧ rotF m n i j D' = R) ∧ T.get 0 = .ls id 0 D.length ∧ T.get 2 = .int .i64 m ∧ T.get 4 = .fn (.func f) [] [] ∧ T.get 10 = .int .i64 i ∧ T.get 11 = .int .i64 j)
    (i0 + j0) ⟨i0, j0, D, rfl, by omega, by omega, by omega, by omega, (St.put_self hs).symm, rfl, ⟨b - a, by omega, hR⟩, by simp, by simp, by simp, by simp, by simp⟩ ?_
  rintro q T s' ⟨i, j, D', hq, hi, hj, him, hmj, rfl, hDl, ⟨n, hn, hD⟩, g0, g2, g4, g10, g11⟩
  obtain ⟨n, rfl⟩ : ∃ p, n = p + 1 := ⟨n - 1, by omega⟩
  have hrow : (s.put id (rowO D')).get id = some (rowO D') := St.get_put_same _ _ _
  have hDl2 : D'.length < 1073741824 := by omega
  have c1 : IntKind.i64.wrap ((m : Int) - (i : Int)) = ((m - i : Nat) : Int) := by rw [wrap64 (by omega) (by omega)]; omega
  unfold rotF at hD
  by_cases he : i = j
  · subst he
    rw [if_pos rfl] at hD
    have he2 : ((i : Int) != (i : Int)) = false := by simp
    have q1 : ((m - i : Nat) : Int) + (i : Int) ≤ (D.length : Int) := by omega
    have q2 : (m : Int) + (i : Int) ≤ (D.length : Int) := by omega
    have q3 : ¬ ((m - i : Nat) : Int) = (m : Int) := by omega
    generalize hmi : m - i = mi at *
    repeat' (first
      | refine WP.t ?_ | refine WP.k ?_ | refine WP.e ?_ | refine Qn ?_ | refine Qr ?_ | refine Qe ?_ | refine Bn ?_ | refine Br ?_ | refine Be ?_ | refine Bx (by decide) ?_
      | (refine RS.nl ?_; refine hk _ _ ?_; clear hk k)
      | ((first | refine RS.st fun A B hA hB => ?_ | refine RQ.st fun A B hA hB => ?_); simp [S1, gSwap, F0, g0, g2, g4, g10, g11, he2, c1, q1, q2, q3, hid, hDl, hl, hDl2, onW_t, onW_f, onV_s]; first | ((first | refine hA _ _ _ ?_ ?_ | refine hA _ _ _ ?_ (by first | exact .inl rfl | exact .inr (by decide)) ?_); (focus (simp [S1, gSwap, F0, g0, g2, g4, g10, g11, he2, c1, q1, q2, q3, hid, hDl, hl, hDl2] <;> omega)); clear hA hB A B) | (refine hB ?_; clear hA hB A B) | (refine onV_if ?_ ?_; (focus (first | omega | (refine ⟨?_, ?_⟩ <;> omega))); simp only [onV_s]; (first | refine hA _ _ _ ?_ ?_ | refine hA _ _ _ ?_ (by first | exact .inl rfl | exact .inr (by decide)) ?_); (focus (simp [S1, gSwap, F0, g0, g2, g4, g10, g11, he2, c1, q1, q2, q3, hid, hDl, hl, hDl2] <;> omega)); clear hA hB A B))
      | (refine RQ.nl ?_; refine hk _ _ ?_; clear hk k)
      | refine WP.sr fun k hk => ?_ | refine WP.r fun k hk => ?_
      | refine WP.sd _ rfl fun k hk => ?_ | refine WP.d _ rfl fun k hk => ?_
      | (refine WP.cc fun A B hA hB => ?_; simp [S1, gSwap, F0, g0, g2, g4, g10, g11, he2, c1, q1, q2, q3, hid, hDl, hl, hDl2, onB_t, onB_f]; first | (refine hA ?_; clear hA hB A B) | (refine hB ?_; clear hA hB A B) | (refine onB_if (fun h => hA ?_) (fun h => hB ?_) <;> clear hA hB A B))
      | refine WP.q ?_ | refine WP.b ?_)
    rw [← hD, St.put_put]
    exact finRow (.inl rfl) hid rfl
  · rw [if_neg he] at hD
    have he2 : ((i : Int) != (j : Int)) = true := by rw [bne_iff_ne]; omega
    by_cases hji : j < i
    · rw [if_pos hji] at hD
      have hgt : (j : Int) < (i : Int) := by omega
      have c2 : IntKind.i64.wrap ((i : Int) - (j : Int)) = ((i - j : Nat) : Int) := by rw [wrap64 (by omega) (by omega)]; omega
      have q1 : ((m - i : Nat) : Int) + (j : Int) ≤ (D.length : Int) := by omega
      have q2 : (m : Int) + (j : Int) ≤ (D.length : Int) := by omega
      have q3 : ¬ ((m - i : Nat) : Int) = (m : Int) := by omega
      have r1 : i - j + j ≤ n := by omega
      generalize hmi : m - i = mi at *
      have hij : ∃ d, i - j = d ∧ 0 < d ∧ d ≤ m ∧ d + j < i + j := ⟨_, rfl, by omega, by omega, by omega⟩
      obtain ⟨d, hd, hd0, hdm, hdq⟩ := hij
      rw [hd] at hD c2 r1
      repeat' (first
        | refine WP.t ?_ | refine WP.k ?_ | refine WP.e ?_ | refine Qn ?_ | refine Qr ?_ | refine Qe ?_ | refine Bn ?_ | refine Br ?_ | refine Be ?_ | refine Bx (by decide) ?_
        | (refine RS.nl ?_; refine hk _ _ ?_; clear hk k)
        | ((first | refine RS.st fun A B hA hB => ?_ | refine RQ.st fun A B hA hB => ?_); simp [S1, gSwap, F0, g0, g2, g4, g10, g11, he2, c1, q1, q2, q3, hid, hDl, hl, hDl2, hgt, c2, onW_t, onW_f, onV_s]; first | ((first | refine hA _ _ _ ?_ ?_ | refine hA _ _ _ ?_ (by first | exact .inl rfl | exact .inr (by decide)) ?_); (focus (simp [S1, gSwap, F0, g0, g2, g4, g10, g11, he2, c1, q1, q2, q3, hid, hDl, hl, hDl2, hgt, c2] <;> omega)); clear hA hB A B) | (refine hB ?_; clear hA hB A B) | (refine onV_if ?_ ?_; (focus (first | omega | (refine ⟨?_, ?_⟩ <;> omega))); simp only [onV_s]; (first | refine hA _ _ _ ?_ ?_ | refine hA _ _ _ ?_ (by first | exact .inl rfl | exact .inr (by decide)) ?_); (focus (simp [S1, gSwap, F0, g0, g2, g4, g10, g11, he2, c1, q1, q2, q3, hid, hDl, hl, hDl2, hgt, c2] <;> omega)); clear hA hB A B))
        | (refine RQ.nl ?_; refine hk _ _ ?_; clear hk k)
        | refine WP.sr fun k hk => ?_ | refine WP.r fun k hk => ?_
        | refine WP.sd _ rfl fun k hk => ?_ | refine WP.d _ rfl fun k hk => ?_
        | (refine WP.cc fun A B hA hB => ?_; simp [S1, gSwap, F0, g0, g2, g4, g10, g11, he2, c1, q1, q2, q3, hid, hDl, hl, hDl2, hgt, c2, onB_t, onB_f]; first | (refine hA ?_; clear hA hB A B) | (refine hB ?_; clear hA hB A B) | (refine onB_if (fun h => hA ?_) (fun h => hB ?_) <;> clear hA hB A B))
        | refine WP.q ?_ | refine WP.b ?_)
      refine ⟨d + j, by omega, d, j, swapR j D' mi m, rfl, hd0, hj, hdm, hmj, by rw [St.put_put], by rw [swapR_length]; exact hDl, ⟨n, r1, hD⟩, by simp [g0], by simp [g2], by simp [g4], by simp, by simp [g11]⟩
    · rw [if_neg hji] at hD
      have hgt : ¬ (j : Int) < (i : Int) := by omega
      have c2 : IntKind.i64.wrap ((j : Int) - (i : Int)) = ((j - i : Nat) : Int) := by rw [wrap64 (by omega) (by omega)]; omega
      have c3 : IntKind.i64.wrap ((m : Int) + (j : Int)) = ((m + j : Nat) : Int) := by rw [wrap64 (by omega) (by omega)]; omega
      have c3' : IntKind.i64.wrap ((m : Int) + (j : Int)) = (m : Int) + (j : Int) := wrap64 (by omega) (by omega)
      have c4 : IntKind.i64.wrap ((m : Int) + (j : Int) - (i : Int)) = ((m + j - i : Nat) : Int) := by rw [wrap64 (by omega) (by omega)]; omega
      have q1 : ((m - i : Nat) : Int) + (i : Int) ≤ (D.length : Int) := by omega
      have q2 : ((m + j - i : Nat) : Int) + (i : Int) ≤ (D.length : Int) := by omega
      have q3 : ¬ ((m - i : Nat) : Int) = ((m + j - i : Nat) : Int) := by omega
      have r1 : i + (j - i) ≤ n := by omega
      generalize hmi : m - i = mi at *
      generalize hmji : m + j - i = mj at *
      have hij : ∃ d, j - i = d ∧ 0 < d ∧ m + d ≤ D.length ∧ i + d < i + j := ⟨_, rfl, by omega, by omega, by omega⟩
      obtain ⟨d, hd, hd0, hdm, hdq⟩ := hij
      rw [hd] at hD c2 r1
      repeat' (first
        | refine WP.t ?_ | refine WP.k ?_ | refine WP.e ?_ | refine Qn ?_ | refine Qr ?_ | refine Qe ?_ | refine Bn ?_ | refine Br ?_ | refine Be ?_ | refine Bx (by decide) ?_
        | (refine RS.nl ?_; refine hk _ _ ?_; clear hk k)
        | ((first | refine RS.st fun A B hA hB => ?_ | refine RQ.st fun A B hA hB => ?_); simp [S1, gSwap, F0, g0, g2, g4, g10, g11, he2, c1, q1, q2, q3, hid, hDl, hl, hDl2, hgt, c2, c3', c4, onW_t, onW_f, onV_s]; first | ((first | refine hA _ _ _ ?_ ?_ | refine hA _ _ _ ?_ (by first | exact .inl rfl | exact .inr (by decide)) ?_); (focus (simp [S1, gSwap, F0, g0, g2, g4, g10, g11, he2, c1, q1, q2, q3, hid, hDl, hl, hDl2, hgt, c2, c3', c4] <;> omega)); clear hA hB A B) | (refine hB ?_; clear hA hB A B) | (refine onV_if ?_ ?_; (focus (first | omega | (refine ⟨?_, ?_⟩ <;> omega))); simp only [onV_s]; (first | refine hA _ _ _ ?_ ?_ | refine hA _ _ _ ?_ (by first | exact .inl rfl | exact .inr (by decide)) ?_); (focus (simp [S1, gSwap, F0, g0, g2, g4, g10, g11, he2, c1, q1, q2, q3, hid, hDl, hl, hDl2, hgt, c2, c3', c4] <;> omega)); clear hA hB A B))
        | (refine RQ.nl ?_; refine hk _ _ ?_; clear hk k)
        | refine WP.sr fun k hk => ?_ | refine WP.r fun k hk => ?_
        | refine WP.sd _ rfl fun k hk => ?_ | refine WP.d _ rfl fun k hk => ?_
        | (refine WP.cc fun A B hA hB => ?_; simp [S1, gSwap, F0, g0, g2, g4, g10, g11, he2, c1, q1, q2, q3, hid, hDl, hl, hDl2, hgt, c2, c3', c4, onB_t, onB_f]; first | (refine hA ?_; clear hA hB A B) | (refine hB ?_; clear hA hB A B) | (refine onB_if (fun h => hA ?_) (fun h => hB ?_) <;> clear hA hB A B))
        | refine WP.q ?_ | refine WP.b ?_)
      refine ⟨i + d, by omega, i, d, swapR i D' mi mj, rfl, hi, hd0, him, hdm, by rw [St.put_put], by rw [swapR_length]; exact hDl, ⟨n, r1, hD⟩, by simp [g0], by simp [g2], by simp [g4], by simp [g10], by simp⟩
@[simp] theorem rotF_length (m : Nat) : ∀ (n i j : Nat) (D : Rows0), (rotF m n i j D).length = D.length
  | 0, _, _, _ => rfl
  | n + 1, i, j, D => by
    unfold rotF
    split
    · rw [swapR_length]
    · split
      · rw [rotF_length, swapR_length]
      · rw [rotF_length, swapR_length]
theorem rotF_ok (m : Nat) : ∀ (n i j : Nat) {D : Rows0}, okD D → okD (rotF m n i j D)
  | 0, _, _, _, h => h
  | n + 1, i, j, D, h => by
    unfold rotF
    split
    · exact swapR_ok _ _ _ h
    · split
      · exact rotF_ok m n _ _ (swapR_ok _ _ _ h)
      · exact rotF_ok m n _ _ (swapR_ok _ _ _ h)
def gRot (xs : List AV) (s : St) : Option (AV × St × List Nat) :=
  match xs with
  | [.ls id 0 n, .int .i64 a, .int .i64 m, .int .i64 b, .fn (.func f) [] []] => if id < s.nx then (match s.get id with
    | some (.row 1 (true, 33) es) => match decD es with
      | some D => if (n = D.length ∧ D.length < 1073741824) ∧ (0 ≤ a ∧ a < m ∧ m < b ∧ b ≤ D.length) then some (.tup [], s.put id (rowO (rotF m.toNat (b.toNat - a.toNat) (m.toNat - a.toNat) (b.toNat - m.toNat) D)), [id]) else none
      | none => none
    | _ => none) else none
  | _ => none
theorem gRot_ok (hK : 0 < K) (hT : Tens gw) {xs : List AV} {r : AV} {s' : St} {l : List Nat} (h : gRot xs s = some (r, s', l)) : FT (env K gw) (fun id => id ∈ l) 82 xs s r s' := by
  unfold gRot at h
  split at h
  · rename_i id n a m b f
    split at h
    · rename_i hid
      split at h
      · rename_i hs
        split at h
        · rename_i D hD
          split at h
          · rename_i hc
            cases h
            obtain ⟨⟨rfl, hl⟩, h1, h2, h3, h4⟩ := hc
            rw [decD_eq hD] at hs
            obtain ⟨a, rfl⟩ : ∃ q : Nat, a = q := ⟨a.toNat, (Int.toNat_of_nonneg h1).symm⟩
            obtain ⟨m, rfl⟩ : ∃ q : Nat, m = q := ⟨m.toNat, (Int.toNat_of_nonneg (by omega)).symm⟩
            obtain ⟨b, rfl⟩ : ∃ q : Nat, b = q := ⟨b.toNat, (Int.toNat_of_nonneg (by omega)).symm⟩
            exact ft74 hK hT D hid hs f a m b (by omega) (by omega) (by omega) hl
          · cases h
        · cases h
      · cases h
    · cases h
  · cases h
def S2 : Fns := S1.add 82 gRot
theorem S2_ok (hK : 0 < K) (hT : Tens gw) : FOk (env K gw) S2 := (S1_ok hK hT).add fun xs s r s' l h => gRot_ok hK hT h
end
end Go.Am
namespace Go.Am
open Go.Proofs
theorem wrapu {x : Int} (h0 : 0 ≤ x) (h1 : x < 18446744073709551616) : IntKind.u64.wrap x = x := by
  have : IntKind.u64.wrap x = x % 18446744073709551616 := rfl
  rw [this]; omega
def bs (p : Nat → Bool) : Nat → Nat → Nat → Nat
  | 0, i, _ => i
  | n + 1, i, j => if i < j then (if p ((i + j) / 2) then bs p n ((i + j) / 2 + 1) j else bs p n i ((i + j) / 2)) else i
theorem bs_end {p : Nat → Bool} {n i j : Nat} (h : ¬ i < j) : bs p n i j = i := by
  cases n with
  | zero => rfl
  | succ n => unfold bs; rw [if_neg h]
theorem bs_yes {p : Nat → Bool} {n i j : Nat} (h : i < j) (hp : p ((i + j) / 2) = true) : bs p (n + 1) i j = bs p n ((i + j) / 2 + 1) j := by
  conv => lhs; unfold bs
  rw [if_pos h, if_pos hp]
theorem bs_no {p : Nat → Bool} {n i j : Nat} (h : i < j) (hp : p ((i + j) / 2) = false) : bs p (n + 1) i j = bs p n i ((i + j) / 2) := by
  conv => lhs; unfold bs
  rw [if_pos h, if_neg (by rw [hp]; simp)]
def movU : Nat → Nat → Rows0 → Rows0
  | 0, _, D => D
  | c + 1, q, D => movU c (q + 1) (swp D q (q + 1))
def movD (i : Nat) : Nat → Rows0 → Rows0
  | 0, D => D
  | q + 1, D => if i < q + 1 then movD i q (swp D (q + 1) q) else D
section
variable {K : Nat} {gw : World} {s : St}
attribute [local simp] awanted xop zOf zrow aop ev T0 Slots.put Slots.set Slots.get awr WOk AV.may ofConst abinop aint isConst St.get_push St.get_put St.live AV.fit AV.cells AV.one fieldOf afieldAddr aload ofCells astore splice May eqres env_ti FinP FinZ FinW ares aresL ares1 Fns.addP Fns.add Fns.a0 Fns.a1 Fns.a2 Fns.a3 Fns.a4 abuiltin alenOk alen aindex elemOfT elemId abuildSlice afill chunks ard aappend isSS AV.isStr aminmax placesOf abuild afield aidx isStrD isStrDesc astrop aslice asliceOk abound arange anext aextract aunop aeq AV.ck avseq aveq aconv aconvert onB_t onB_f List.range_succ ti0 ti1 ti2 ti3 ti4 ti5 ti6 ti7 ti8 ti9 ti10 ti11 ti12 ti13 ti14 ti15 ti16 ti17 ti18 ti19 ti20 ti21 ti22 ti23 ti24 ti25 ti26 ti27 ti28 ti29 ti30 ti31 ti32 ti33 ti34 ti35 ti36 ti37 ti38 ti39 ti40 ti41 ti42 ti43 ti44 ti45 ti46 ti47 ti48 ti49 ti50 ti51 ti52 ti53 ti54 ti55 ti56 ti57 ti58 ti59 ti60 ti61 ti62 ti63 ti64 ti65 ti66 ti67 ti68 ti69 ti70 ti71 ti72 ti73 ti74 ti75 ti76 ti77 ti78 ti79 ti80 ti81 ti82 ti83 ti84 ti85 ti86 ti87 ti88 ti89 ti90 ti91 ti92 ti93 ti94 ti95 ti96 ti97 ti98 ti99 ti100 ti101 ti102 ti103 ti104 ti105 ti106 ti107 ti108 ti109 ti110 ti111 ti112 ti113 ti114 ti115 ti116 ti117 ti118 ti119 ti120 ti121 ti122 ti123 ti124 ti125 ti126 ti127 ti128 ti129 ti130 ti131 ti132 ti133 ti134 ti135 ti136 ti137 ti138 ti139 ti140 ti141 ti142 ti143 ti144 ti145 ti146 ti147
set_option maxRecDepth 20000 in
set_option maxHeartbeats 8000000 in
theorem ft64a (hK : 0 < K) (hT : Tens gw) (F : Fns) (hF : FOk (env K gw) F) (hcmp : ∀ (x y : List V) (s : St), x.length < LIM → y.length < LIM → F 60 [.sl (x.map V.cs), .sl (y.map V.cs)] s = some (.int .i64 (cmpT x y), s, [])) {id : Nat} (D : Rows0) (hid : id < s.nx) (hs : s.get id = some (rowO D)) (a b : Nat) (hb : a + 1 < b) (hbl : b ≤ D.length) (hl : D.length < 1073741824) (hok : okD D) :
    FT (env K gw) (fun i => i ∈ [id]) 73 [.ls id 0 D.length, .int .i64 a, .int .i64 (a + 1 : Nat), .int .i64 b, .fn (.func 60) [] []] s (.tup [])
      (s.put id (rowO (movU (bs (fun q => decide (cmpT (gD D q) (gD D a) < 0)) (b - (a + 1)) (a + 1) b - 1 - a) a D))) := by
  refine FT.own (fn := Tryd.f73) hF mixed Tryd.func73 (by kernel_rfl) (by rfl) rfl rfl (by simp) (by kernel_rfl) fun μ w => ?_
  have w0 : IntKind.i64.wrap ((a : Int) + 1 - (a : Int)) = 1 := by rw [wrap64 (by omega) (by omega)]; omega
  generalize hR : bs (fun q => decide (cmpT (gD D q) (gD D a) < 0)) (b - (a + 1)) (a + 1) b = R at *
  repeat' (first
    | refine WP.t ?_ | refine WP.k ?_ | refine WP.e ?_ | refine Qn ?_ | refine Qr ?_ | refine Qe ?_ | refine Bn ?_ | refine Br ?_ | refine Be ?_ | refine Bx (by decide) ?_
    | (refine RS.nl ?_; refine hk _ _ ?_; clear hk k)
    | ((first | refine RS.st fun A B hA hB => ?_ | refine RQ.st fun A B hA hB => ?_); simp [F0, w0, onW_t, onW_f, onV_s]; first | ((first | refine hA _ _ _ ?_ ?_ | refine hA _ _ _ ?_ (by first | exact .inl rfl | exact .inr (by decide)) ?_); (focus (simp [F0, w0] <;> omega)); clear hA hB A B) | (refine hB ?_; clear hA hB A B) | (refine onV_if ?_ ?_; (focus (first | omega | (refine ⟨?_, ?_⟩ <;> omega))); simp only [onV_s]; (first | refine hA _ _ _ ?_ ?_ | refine hA _ _ _ ?_ (by first | exact .inl rfl | exact .inr (by decide)) ?_); (focus (simp [F0, w0] <;> omega)); clear hA hB A B))
    | (refine RQ.nl ?_; refine hk _ _ ?_; clear hk k)
    | refine WP.sr fun k hk => ?_ | refine WP.r fun k hk => ?_
    | refine WP.sd _ rfl fun k hk => ?_ | refine WP.d _ rfl fun k hk => ?_
    | (refine WP.cc fun A B hA hB => ?_; simp [F0, w0, onB_t, onB_f]; first | (refine hA ?_; clear hA hB A B) | (refine hB ?_; clear hA hB A B) | (refine onB_if (fun h => hA ?_) (fun h => hB ?_) <;> clear hA hB A B))
    | refine WP.q ?_ | refine WP.b ?_)
  refine WP_loop (fun q T s' => ∃ (i j : Nat), q = j - i ∧ a + 1 ≤ i ∧ i ≤ j ∧ j ≤ b ∧ s' = s ∧ (∃ n, j - i ≤ n ∧ bs (fun q => decide (cmpT (gD D q) (gD D a) < 0)) n i j = R) ∧ T.get 0 = .ls id 0 D.length ∧ T.get 1 = .int .i64 a ∧ T.get 4 = .fn (.func 60) [] [] ∧ T.get 10 = .int .i64 i ∧ T.get 11 = .int .i64 j)
    (b - (a + 1)) ⟨a + 1, b, rfl, Nat.le_refl _, by omega, Nat.le_refl _, rfl, ⟨_, Nat.le_refl _, hR⟩, by simp, by simp, by simp, by simp, by simp⟩ ?_
  rintro q T s' ⟨i, j, hq, hai, hij, hjb, rfl, ⟨n, hn, hbs⟩, g0, g1, g4, g10, g11⟩
  by_cases hlt : i < j
  · have hlti : (i : Int) < (j : Int) := by omega
    obtain ⟨n, rfl⟩ : ∃ r, n = r + 1 := ⟨n - 1, by omega⟩
    generalize hm : (i + j) / 2 = m at *
    have c1 : IntKind.i64.wrap ((i : Int) + (j : Int)) = (i : Int) + (j : Int) := wrap64 (by omega) (by omega)
    have c2 : IntKind.u64.wrap ((i : Int) + (j : Int)) = (i : Int) + (j : Int) := wrapu (by omega) (by omega)
    have c3 : ((i : Int) + (j : Int)).fdiv 2 = (m : Int) := by rw [Int.fdiv_eq_ediv_of_nonneg _ (by omega)]; omega
    have c4 : IntKind.i64.wrap (m : Int) = (m : Int) := wrap64 (by omega) (by omega)
    have c5 : IntKind.i64.wrap ((m : Int) + 1) = (m : Int) + 1 := wrap64 (by omega) (by omega)
    have i1 : m < D.length := by omega
    have i2 : a < D.length := by omega
    have p1 : (m : Int) < (D.length : Int) := by omega
    have p2 : (a : Int) < (D.length : Int) := by omega
    have hx := encD_get i1
    have hy := encD_get i2
    have ox := hok _ (List.getElem_mem i1)
    have oy := hok _ (List.getElem_mem i2)
    have e1 := gD_of i1
    have e2 := gD_of i2
    by_cases hc : cmpT (gD D m) (gD D a) < 0
    · rw [bs_yes hlt (by rw [hm]; exact decide_eq_true hc), hm] at hbs
      rw [e1, e2] at hc
      generalize D[m] = x at *
      generalize D[a] = y at *
      have rwx : Rw x = [.sl (x.map V.cs)] := rfl
      have rwy : Rw y = [.sl (y.map V.cs)] := rfl
      have hcm := hcmp x y s' ox oy
      repeat' (first
        | refine WP.t ?_ | refine WP.k ?_ | refine WP.e ?_ | refine Qn ?_ | refine Qr ?_ | refine Qe ?_ | refine Bn ?_ | refine Br ?_ | refine Be ?_ | refine Bx (by decide) ?_
        | (refine RS.nl ?_; refine hk _ _ ?_; clear hk k)
        | ((first | refine RS.st fun A B hA hB => ?_ | refine RQ.st fun A B hA hB => ?_); simp [hcm, g0, g1, g4, g10, g11, hlti, c1, c2, c3, c4, c5, p1, p2, hx, hy, rwx, rwy, hs, hc, ti36, ti33, ti130, ti3, elemOfT, aindex, aconv, aconvert, ashift, IntKind.bits, onW_t, onW_f, onV_s]; first | ((first | refine hA _ _ _ ?_ ?_ | refine hA _ _ _ ?_ (by first | exact .inl rfl | exact .inr (by decide)) ?_); (focus (simp [hcm, g0, g1, g4, g10, g11, hlti, c1, c2, c3, c4, c5, p1, p2, hx, hy, rwx, rwy, hs, hc, ti36, ti33, ti130, ti3, elemOfT, aindex, aconv, aconvert, ashift, IntKind.bits] <;> omega)); clear hA hB A B) | (refine hB ?_; clear hA hB A B) | (refine onV_if ?_ ?_; (focus (first | omega | (refine ⟨?_, ?_⟩ <;> omega))); simp only [onV_s]; (first | refine hA _ _ _ ?_ ?_ | refine hA _ _ _ ?_ (by first | exact .inl rfl | exact .inr (by decide)) ?_); (focus (simp [hcm, g0, g1, g4, g10, g11, hlti, c1, c2, c3, c4, c5, p1, p2, hx, hy, rwx, rwy, hs, hc, ti36, ti33, ti130, ti3, elemOfT, aindex, aconv, aconvert, ashift, IntKind.bits] <;> omega)); clear hA hB A B))
        | (refine RQ.nl ?_; refine hk _ _ ?_; clear hk k)
        | refine WP.sr fun k hk => ?_ | refine WP.r fun k hk => ?_
        | refine WP.sd _ rfl fun k hk => ?_ | refine WP.d _ rfl fun k hk => ?_
        | (refine WP.cc fun A B hA hB => ?_; simp [hcm, g0, g1, g4, g10, g11, hlti, c1, c2, c3, c4, c5, p1, p2, hx, hy, rwx, rwy, hs, hc, ti36, ti33, ti130, ti3, elemOfT, aindex, aconv, aconvert, ashift, IntKind.bits, onB_t, onB_f]; first | (refine hA ?_; clear hA hB A B) | (refine hB ?_; clear hA hB A B) | (refine onB_if (fun h => hA ?_) (fun h => hB ?_) <;> clear hA hB A B))
        | refine WP.q ?_ | refine WP.b ?_)
      exact ⟨j - (m + 1), by omega, m + 1, j, rfl, by omega, by omega, hjb, rfl, ⟨n, by omega, hbs⟩, by simp [g0], by simp [g1], by simp [g4], by simp, by simp [g11]⟩
    · rw [bs_no hlt (by rw [hm]; exact decide_eq_false hc), hm] at hbs
      rw [e1, e2] at hc
      generalize D[m] = x at *
      generalize D[a] = y at *
      have rwx : Rw x = [.sl (x.map V.cs)] := rfl
      have rwy : Rw y = [.sl (y.map V.cs)] := rfl
      have hcm := hcmp x y s' ox oy
      repeat' (first
        | refine WP.t ?_ | refine WP.k ?_ | refine WP.e ?_ | refine Qn ?_ | refine Qr ?_ | refine Qe ?_ | refine Bn ?_ | refine Br ?_ | refine Be ?_ | refine Bx (by decide) ?_
        | (refine RS.nl ?_; refine hk _ _ ?_; clear hk k)
        | ((first | refine RS.st fun A B hA hB => ?_ | refine RQ.st fun A B hA hB => ?_); simp [hcm, g0, g1, g4, g10, g11, hlti, c1, c2, c3, c4, c5, p1, p2, hx, hy, rwx, rwy, hs, hc, ti36, ti33, ti130, ti3, elemOfT, aindex, aconv, aconvert, ashift, IntKind.bits, onW_t, onW_f, onV_s]; first | ((first | refine hA _ _ _ ?_ ?_ | refine hA _ _ _ ?_ (by first | exact .inl rfl | exact .inr (by decide)) ?_); (focus (simp [hcm, g0, g1, g4, g10, g11, hlti, c1, c2, c3, c4, c5, p1, p2, hx, hy, rwx, rwy, hs, hc, ti36, ti33, ti130, ti3, elemOfT, aindex, aconv, aconvert, ashift, IntKind.bits] <;> omega)); clear hA hB A B) | (refine hB ?_; clear hA hB A B) | (refine onV_if ?_ ?_; (focus (first | omega | (refine ⟨?_, ?_⟩ <;> omega))); simp only [onV_s]; (first | refine hA _ _ _ ?_ ?_ | refine hA _ _ _ ?_ (by first | exact .inl rfl | exact .inr (by decide)) ?_); (focus (simp [hcm, g0, g1, g4, g10, g11, hlti, c1, c2, c3, c4, c5, p1, p2, hx, hy, rwx, rwy, hs, hc, ti36, ti33, ti130, ti3, elemOfT, aindex, aconv, aconvert, ashift, IntKind.bits] <;> omega)); clear hA hB A B))
        | (refine RQ.nl ?_; refine hk _ _ ?_; clear hk k)
        | refine WP.sr fun k hk => ?_ | refine WP.r fun k hk => ?_
        | refine WP.sd _ rfl fun k hk => ?_ | refine WP.d _ rfl fun k hk => ?_
        | (refine WP.cc fun A B hA hB => ?_; simp [hcm, g0, g1, g4, g10, g11, hlti, c1, c2, c3, c4, c5, p1, p2, hx, hy, rwx, rwy, hs, hc, ti36, ti33, ti130, ti3, elemOfT, aindex, aconv, aconvert, ashift, IntKind.bits, onB_t, onB_f]; first | (refine hA ?_; clear hA hB A B) | (refine hB ?_; clear hA hB A B) | (refine onB_if (fun h => hA ?_) (fun h => hB ?_) <;> clear hA hB A B))
        | refine WP.q ?_ | refine WP.b ?_)
      exact ⟨m - i, by omega, i, m, rfl, hai, by omega, by omega, rfl, ⟨n, by omega, hbs⟩, by simp [g0], by simp [g1], by simp [g4], by simp [g10], by simp⟩
  · have hlti : ¬ (i : Int) < (j : Int) := by omega
    rw [bs_end hlt] at hbs
    subst hbs
    have c6 : IntKind.i64.wrap ((i : Int) - 1) = (i : Int) - 1 := wrap64 (by omega) (by omega)
    repeat' (first
      | refine WP.t ?_ | refine WP.k ?_ | refine WP.e ?_ | refine Qn ?_ | refine Qr ?_ | refine Qe ?_ | refine Bn ?_ | refine Br ?_ | refine Be ?_ | refine Bx (by decide) ?_
      | (refine RS.nl ?_; refine hk _ _ ?_; clear hk k)
      | ((first | refine RS.st fun A B hA hB => ?_ | refine RQ.st fun A B hA hB => ?_); simp [g0, g1, g4, g10, g11, hlti, c6, onW_t, onW_f, onV_s]; first | ((first | refine hA _ _ _ ?_ ?_ | refine hA _ _ _ ?_ (by first | exact .inl rfl | exact .inr (by decide)) ?_); (focus (simp [g0, g1, g4, g10, g11, hlti, c6] <;> omega)); clear hA hB A B) | (refine hB ?_; clear hA hB A B) | (refine onV_if ?_ ?_; (focus (first | omega | (refine ⟨?_, ?_⟩ <;> omega))); simp only [onV_s]; (first | refine hA _ _ _ ?_ ?_ | refine hA _ _ _ ?_ (by first | exact .inl rfl | exact .inr (by decide)) ?_); (focus (simp [g0, g1, g4, g10, g11, hlti, c6] <;> omega)); clear hA hB A B))
      | (refine RQ.nl ?_; refine hk _ _ ?_; clear hk k)
      | refine WP.sr fun k hk => ?_ | refine WP.r fun k hk => ?_
      | refine WP.sd _ rfl fun k hk => ?_ | refine WP.d _ rfl fun k hk => ?_
      | (refine WP.cc fun A B hA hB => ?_; simp [g0, g1, g4, g10, g11, hlti, c6, onB_t, onB_f]; first | (refine hA ?_; clear hA hB A B) | (refine hB ?_; clear hA hB A B) | (refine onB_if (fun h => hA ?_) (fun h => hB ?_) <;> clear hA hB A B))
      | refine WP.q ?_ | refine WP.b ?_)
    refine WP_loop (fun q2 T2 s2 => ∃ (r : Nat) (D2 : Rows0), q2 = i - 1 - r ∧ a ≤ r ∧ r ≤ i - 1 ∧ s2 = s'.put id (rowO D2) ∧ D2.length = D.length ∧ movU (i - 1 - r) r D2 = movU (i - 1 - a) a D ∧ T2.get 0 = .ls id 0 D.length ∧ T2.get 10 = .int .i64 i ∧ T2.get 13 = .int .i64 r)
      (i - 1 - a) ⟨a, D, rfl, Nat.le_refl _, by omega, (St.put_self hs).symm, rfl, rfl, by simp [g0], by simp [g10], by simp⟩ ?_
    rintro q2 T2 s2 ⟨r, D2, hq2, har, hri, rfl, hD2l, hmov, k0, k10, k13⟩
    by_cases hr : r < i - 1
    · have hrlt : (r : Int) < (i : Int) - 1 := by omega
      have i1 : r < D2.length := by omega
      have i2 : r + 1 < D2.length := by omega
      have w5 : IntKind.i64.wrap ((r : Int) + 1) = (r : Int) + 1 := wrap64 (by omega) (by omega)
      have p0 : 0 ≤ (r : Int) + 1 := by omega
      have p1 : (r : Int) < (D.length : Int) := by omega
      have p2 : (r : Int) + 1 < (D.length : Int) := by omega
      have p3 : ((r : Int) + 1).toNat = r + 1 := by omega
      have hx := encD_get i1
      have hy := encD_get i2
      have hsw : swp D2 r (r + 1) = (D2.set r D2[r + 1]).set (r + 1) D2[r] := swp_of i1 i2
      have hst : ∀ v, ((encD D2).set r v)[r + 1]? = some (Rw D2[r + 1]) := fun v => by rw [List.getElem?_set_ne (by omega)]; exact hy
      generalize D2[r] = x at *
      generalize D2[r + 1] = y at *
      repeat' (first
        | refine WP.sw 16 (by decide) (by decide) fun k hk => ?_
        | refine WP.w 16 (by decide) (by decide) fun k hk => ?_
        | refine WP.t ?_ | refine WP.k ?_ | refine WP.e ?_ | refine Qn ?_ | refine Qr ?_ | refine Qe ?_ | refine Bn ?_ | refine Br ?_ | refine Be ?_ | refine Bx (by decide) ?_
        | (refine RS.nl ?_; refine hk _ _ ?_; clear hk k)
        | ((first | refine RS.st fun A B hA hB => ?_ | refine RQ.st fun A B hA hB => ?_); simp [k0, k10, k13, hrlt, c6, w5, p0, p1, p2, p3, hx, hy, ti36, ti33, elemOfT, aindex, St.get_put_same, hst, onW_t, onW_f, onV_s]; first | ((first | refine hA _ _ _ ?_ ?_ | refine hA _ _ _ ?_ (by first | exact .inl rfl | exact .inr (by decide)) ?_); (focus (simp [k0, k10, k13, hrlt, c6, w5, p0, p1, p2, p3, hx, hy, ti36, ti33, elemOfT, aindex, St.get_put_same, hst] <;> omega)); clear hA hB A B) | (refine hB ?_; clear hA hB A B) | (refine onV_if ?_ ?_; (focus (first | omega | (refine ⟨?_, ?_⟩ <;> omega))); simp only [onV_s]; (first | refine hA _ _ _ ?_ ?_ | refine hA _ _ _ ?_ (by first | exact .inl rfl | exact .inr (by decide)) ?_); (focus (simp [k0, k10, k13, hrlt, c6, w5, p0, p1, p2, p3, hx, hy, ti36, ti33, elemOfT, aindex, St.get_put_same, hst] <;> omega)); clear hA hB A B))
        | (refine RQ.nl ?_; refine hk _ _ ?_; clear hk k)
        | (refine RW.nl ?_ ?_; (focus (first | exact .inl (by decide) | (refine .inr ?_; (simp [k0, k10, k13, hrlt, c6, w5, p0, p1, p2, p3, hx, hy, ti36, ti33, elemOfT, aindex, St.get_put_same, hst] <;> omega)))); refine hk _ _ ?_; clear hk k)
        | (refine RW.st ?_ fun A B hA hB => ?_; (focus (first | exact .inl (by decide) | (refine .inr ?_; (simp [k0, k10, k13, hrlt, c6, w5, p0, p1, p2, p3, hx, hy, ti36, ti33, elemOfT, aindex, St.get_put_same, hst] <;> omega)))); simp [k0, k10, k13, hrlt, c6, w5, p0, p1, p2, p3, hx, hy, ti36, ti33, elemOfT, aindex, St.get_put_same, hst, onW_t, onW_f, onV_s]; first | (refine hA _ _ _ ?_ ?_ ?_ ?_; (focus (simp [k0, k10, k13, hrlt, c6, w5, p0, p1, p2, p3, hx, hy, ti36, ti33, elemOfT, aindex, St.get_put_same, hst] <;> omega)); (focus (first | exact .inl (by decide) | exact .inr (.inl rfl) | exact .inr (.inr rfl))); (focus (first | exact .inl (by decide) | exact .inr (.inl (by decide)) | (refine .inr (.inr fun s2 hs2 => ?_); have hs2n := hs2.nx; simp only [Keep_cons, Keep_nil] at hs2; simp [k0, k10, k13, hrlt, c6, w5, p0, p1, p2, p3, hx, hy, ti36, ti33, elemOfT, aindex, St.get_put_same, hst, hs2, hs2n]; done))); clear hA hB A B) | (refine hB ?_; clear hA hB A B))
        | refine WP.sr fun k hk => ?_ | refine WP.r fun k hk => ?_
        | (refine WP.swK [] ?_ fun k hk => ?_; (focus (decide))) | (refine WP.wK [] ?_ fun k hk => ?_; (focus (decide))) | refine WP.sd _ rfl fun k hk => ?_ | refine WP.d _ rfl fun k hk => ?_
        | (refine WP.cc fun A B hA hB => ?_; simp [k0, k10, k13, hrlt, c6, w5, p0, p1, p2, p3, hx, hy, ti36, ti33, elemOfT, aindex, St.get_put_same, hst, onB_t, onB_f]; first | (refine hA ?_; clear hA hB A B) | (refine hB ?_; clear hA hB A B) | (refine onB_if (fun h => hA ?_) (fun h => hB ?_) <;> clear hA hB A B))
        | refine WP.q ?_ | refine WP.b ?_)
      refine ⟨i - 1 - (r + 1), by omega, r + 1, swp D2 r (r + 1), rfl, by omega, by omega, ?_, by rw [swp_length]; exact hD2l, ?_, by simp [k0], by simp [k10], by simp⟩
      · rw [St.put_put, St.put_put, hsw]
        simp only [Rw_def, Rw_tail, encD_set]
      · have e : i - 1 - r = (i - 1 - (r + 1)) + 1 := by omega
        rw [e] at hmov
        exact hmov
    · have hrlt : ¬ (r : Int) < (i : Int) - 1 := by omega
      have hre : i - 1 - r = 0 := by omega
      rw [hre] at hmov
      repeat' (first
        | refine WP.t ?_ | refine WP.k ?_ | refine WP.e ?_ | refine Qn ?_ | refine Qr ?_ | refine Qe ?_ | refine Bn ?_ | refine Br ?_ | refine Be ?_ | refine Bx (by decide) ?_
        | (refine RS.nl ?_; refine hk _ _ ?_; clear hk k)
        | ((first | refine RS.st fun A B hA hB => ?_ | refine RQ.st fun A B hA hB => ?_); simp [k0, k10, k13, hrlt, c6, onW_t, onW_f, onV_s]; first | ((first | refine hA _ _ _ ?_ ?_ | refine hA _ _ _ ?_ (by first | exact .inl rfl | exact .inr (by decide)) ?_); (focus (simp [k0, k10, k13, hrlt, c6] <;> omega)); clear hA hB A B) | (refine hB ?_; clear hA hB A B) | (refine onV_if ?_ ?_; (focus (first | omega | (refine ⟨?_, ?_⟩ <;> omega))); simp only [onV_s]; (first | refine hA _ _ _ ?_ ?_ | refine hA _ _ _ ?_ (by first | exact .inl rfl | exact .inr (by decide)) ?_); (focus (simp [k0, k10, k13, hrlt, c6] <;> omega)); clear hA hB A B))
        | (refine RQ.nl ?_; refine hk _ _ ?_; clear hk k)
        | refine WP.sr fun k hk => ?_ | refine WP.r fun k hk => ?_
        | refine WP.sd _ rfl fun k hk => ?_ | refine WP.d _ rfl fun k hk => ?_
        | (refine WP.cc fun A B hA hB => ?_; simp [k0, k10, k13, hrlt, c6, onB_t, onB_f]; first | (refine hA ?_; clear hA hB A B) | (refine hB ?_; clear hA hB A B) | (refine onB_if (fun h => hA ?_) (fun h => hB ?_) <;> clear hA hB A B))
        | refine WP.q ?_ | refine WP.b ?_)
      rw [← hmov]
      exact finRow (.inr rfl) hid rfl
end
end Go.Am
namespace Go.Am
open Go.Proofs
section
variable {K : Nat} {gw : World} {s : St}
attribute [local simp] awanted xop zOf zrow aop ev T0 Slots.put Slots.set Slots.get awr WOk AV.may ofConst abinop aint isConst St.get_push St.get_put St.live AV.fit AV.cells AV.one fieldOf afieldAddr aload ofCells astore splice May eqres env_ti FinP FinZ FinW ares aresL ares1 Fns.addP Fns.add Fns.a0 Fns.a1 Fns.a2 Fns.a3 Fns.a4 abuiltin alenOk alen aindex elemOfT elemId abuildSlice afill chunks ard aappend isSS AV.isStr aminmax placesOf abuild afield aidx isStrD isStrDesc astrop aslice asliceOk abound arange anext aextract aunop aeq AV.ck avseq aveq aconv aconvert onB_t onB_f List.range_succ ti0 ti1 ti2 ti3 ti4 ti5 ti6 ti7 ti8 ti9 ti10 ti11 ti12 ti13 ti14 ti15 ti16 ti17 ti18 ti19 ti20 ti21 ti22 ti23 ti24 ti25 ti26 ti27 ti28 ti29 ti30 ti31 ti32 ti33 ti34 ti35 ti36 ti37 ti38 ti39 ti40 ti41 ti42 ti43 ti44 ti45 ti46 ti47 ti48 ti49 ti50 ti51 ti52 ti53 ti54 ti55 ti56 ti57 ti58 ti59 ti60 ti61 ti62 ti63 ti64 ti65 ti66 ti67 ti68 ti69 ti70 ti71 ti72 ti73 ti74 ti75 ti76 ti77 ti78 ti79 ti80 ti81 ti82 ti83 ti84 ti85 ti86 ti87 ti88 ti89 ti90 ti91 ti92 ti93 ti94 ti95 ti96 ti97 ti98 ti99 ti100 ti101 ti102 ti103 ti104 ti105 ti106 ti107 ti108 ti109 ti110 ti111 ti112 ti113 ti114 ti115 ti116 ti117 ti118 ti119 ti120 ti121 ti122 ti123 ti124 ti125 ti126 ti127 ti128 ti129 ti130 ti131 ti132 ti133 ti134 ti135 ti136 ti137 ti138 ti139 ti140 ti141 ti142 ti143 ti144 ti145 ti146 ti147
set_option maxRecDepth 20000 in
set_option maxHeartbeats 8000000 in
theorem ft64b (hK : 0 < K) (hT : Tens gw) (F : Fns) (hF : FOk (env K gw) F) (hcmp : ∀ (x y : List V) (s : St), x.length < LIM → y.length < LIM → F 60 [.sl (x.map V.cs), .sl (y.map V.cs)] s = some (.int .i64 (cmpT x y), s, [])) {id : Nat} (D : Rows0) (hid : id < s.nx) (hs : s.get id = some (rowO D)) (a m : Nat) (ham : a + 1 < m) (hbl : m + 1 ≤ D.length) (hl : D.length < 1073741824) (hok : okD D) :
    FT (env K gw) (fun i => i ∈ [id]) 73 [.ls id 0 D.length, .int .i64 a, .int .i64 m, .int .i64 (m + 1 : Nat), .fn (.func 60) [] []] s (.tup [])
      (s.put id (rowO (movD (bs (fun q => !decide (cmpT (gD D m) (gD D q) < 0)) (m - a) a m) m D))) := by
  refine FT.own (fn := Tryd.f73) hF mixed Tryd.func73 (by kernel_rfl) (by rfl) rfl rfl (by simp) (by kernel_rfl) fun μ w => ?_
  have w0 : IntKind.i64.wrap ((m : Int) - (a : Int)) = (m : Int) - (a : Int) := by rw [wrap64 (by omega) (by omega)]
  have w0' : ((m : Int) - (a : Int) == 1) = false := by rw [beq_eq_false_iff_ne]; omega
  have w1 : IntKind.i64.wrap ((m : Int) + 1 - (m : Int)) = 1 := by rw [wrap64 (by omega) (by omega)]; omega
  generalize hR : bs (fun q => !decide (cmpT (gD D m) (gD D q) < 0)) (m - a) a m = R at *
  repeat' (first
    | refine WP.t ?_ | refine WP.k ?_ | refine WP.e ?_ | refine Qn ?_ | refine Qr ?_ | refine Qe ?_ | refine Bn ?_ | refine Br ?_ | refine Be ?_ | refine Bx (by decide) ?_
    | (refine RS.nl ?_; refine hk _ _ ?_; clear hk k)
    | ((first | refine RS.st fun A B hA hB => ?_ | refine RQ.st fun A B hA hB => ?_); simp [w0, w0', w1, onW_t, onW_f, onV_s]; first | ((first | refine hA _ _ _ ?_ ?_ | refine hA _ _ _ ?_ (by first | exact .inl rfl | exact .inr (by decide)) ?_); (focus (simp [w0, w0', w1] <;> omega)); clear hA hB A B) | (refine hB ?_; clear hA hB A B) | (refine onV_if ?_ ?_; (focus (first | omega | (refine ⟨?_, ?_⟩ <;> omega))); simp only [onV_s]; (first | refine hA _ _ _ ?_ ?_ | refine hA _ _ _ ?_ (by first | exact .inl rfl | exact .inr (by decide)) ?_); (focus (simp [w0, w0', w1] <;> omega)); clear hA hB A B))
    | (refine RQ.nl ?_; refine hk _ _ ?_; clear hk k)
    | refine WP.sr fun k hk => ?_ | refine WP.r fun k hk => ?_
    | refine WP.sd _ rfl fun k hk => ?_ | refine WP.d _ rfl fun k hk => ?_
    | (refine WP.cc fun A B hA hB => ?_; simp [w0, w0', w1, onB_t, onB_f]; first | (refine hA ?_; clear hA hB A B) | (refine hB ?_; clear hA hB A B) | (refine onB_if (fun h => hA ?_) (fun h => hB ?_) <;> clear hA hB A B))
    | refine WP.q ?_ | refine WP.b ?_)
  refine WP_loop (fun q T s' => ∃ (i j : Nat), q = j - i ∧ a ≤ i ∧ i ≤ j ∧ j ≤ m ∧ s' = s ∧ (∃ n, j - i ≤ n ∧ bs (fun q => !decide (cmpT (gD D m) (gD D q) < 0)) n i j = R) ∧ T.get 0 = .ls id 0 D.length ∧ T.get 2 = .int .i64 m ∧ T.get 4 = .fn (.func 60) [] [] ∧ T.get 14 = .int .i64 i ∧ T.get 15 = .int .i64 j)
    (m - a) ⟨a, m, rfl, Nat.le_refl _, by omega, Nat.le_refl _, rfl, ⟨_, Nat.le_refl _, hR⟩, by simp, by simp, by simp, by simp, by simp⟩ ?_
  rintro q T s' ⟨i, j, hq, hai, hij, hjb, rfl, ⟨n, hn, hbs⟩, g0, g2, g4, g14, g15⟩
  by_cases hlt : i < j
  · have hlti : (i : Int) < (j : Int) := by omega
    obtain ⟨n, rfl⟩ : ∃ r, n = r + 1 := ⟨n - 1, by omega⟩
    generalize hmm : (i + j) / 2 = d at *
    have c1 : IntKind.i64.wrap ((i : Int) + (j : Int)) = (i : Int) + (j : Int) := wrap64 (by omega) (by omega)
    have c2 : IntKind.u64.wrap ((i : Int) + (j : Int)) = (i : Int) + (j : Int) := wrapu (by omega) (by omega)
    have c3 : ((i : Int) + (j : Int)).fdiv 2 = (d : Int) := by rw [Int.fdiv_eq_ediv_of_nonneg _ (by omega)]; omega
    have c4 : IntKind.i64.wrap (d : Int) = (d : Int) := wrap64 (by omega) (by omega)
    have c5 : IntKind.i64.wrap ((d : Int) + 1) = (d : Int) + 1 := wrap64 (by omega) (by omega)
    have i1 : d < D.length := by omega
    have i2 : m < D.length := by omega
    have p1 : (d : Int) < (D.length : Int) := by omega
    have p2 : (m : Int) < (D.length : Int) := by omega
    have hx := encD_get i1
    have hy := encD_get i2
    have ox := hok _ (List.getElem_mem i1)
    have oy := hok _ (List.getElem_mem i2)
    have e1 := gD_of i1
    have e2 := gD_of i2
    by_cases hc : cmpT (gD D m) (gD D d) < 0
    · rw [bs_no hlt (by rw [hmm]; simp [hc]), hmm] at hbs
      rw [e1, e2] at hc
      generalize D[d] = x at *
      generalize D[m] = y at *
      have rwx : Rw x = [.sl (x.map V.cs)] := rfl
      have rwy : Rw y = [.sl (y.map V.cs)] := rfl
      have hcm := hcmp y x s' oy ox
      repeat' (first
        | refine WP.t ?_ | refine WP.k ?_ | refine WP.e ?_ | refine Qn ?_ | refine Qr ?_ | refine Qe ?_ | refine Bn ?_ | refine Br ?_ | refine Be ?_ | refine Bx (by decide) ?_
        | (refine RS.nl ?_; refine hk _ _ ?_; clear hk k)
        | ((first | refine RS.st fun A B hA hB => ?_ | refine RQ.st fun A B hA hB => ?_); simp [hcm, g0, g2, g4, g14, g15, hlti, c1, c2, c3, c4, c5, p1, p2, hx, hy, rwx, rwy, hs, hc, ti36, ti33, ti130, ti3, elemOfT, aindex, aconv, aconvert, ashift, IntKind.bits, aunop, onW_t, onW_f, onV_s]; first | ((first | refine hA _ _ _ ?_ ?_ | refine hA _ _ _ ?_ (by first | exact .inl rfl | exact .inr (by decide)) ?_); (focus (simp [hcm, g0, g2, g4, g14, g15, hlti, c1, c2, c3, c4, c5, p1, p2, hx, hy, rwx, rwy, hs, hc, ti36, ti33, ti130, ti3, elemOfT, aindex, aconv, aconvert, ashift, IntKind.bits, aunop] <;> omega)); clear hA hB A B) | (refine hB ?_; clear hA hB A B) | (refine onV_if ?_ ?_; (focus (first | omega | (refine ⟨?_, ?_⟩ <;> omega))); simp only [onV_s]; (first | refine hA _ _ _ ?_ ?_ | refine hA _ _ _ ?_ (by first | exact .inl rfl | exact .inr (by decide)) ?_); (focus (simp [hcm, g0, g2, g4, g14, g15, hlti, c1, c2, c3, c4, c5, p1, p2, hx, hy, rwx, rwy, hs, hc, ti36, ti33, ti130, ti3, elemOfT, aindex, aconv, aconvert, ashift, IntKind.bits, aunop] <;> omega)); clear hA hB A B))
        | (refine RQ.nl ?_; refine hk _ _ ?_; clear hk k)
        | refine WP.sr fun k hk => ?_ | refine WP.r fun k hk => ?_
        | refine WP.sd _ rfl fun k hk => ?_ | refine WP.d _ rfl fun k hk => ?_
        | (refine WP.cc fun A B hA hB => ?_; simp [hcm, g0, g2, g4, g14, g15, hlti, c1, c2, c3, c4, c5, p1, p2, hx, hy, rwx, rwy, hs, hc, ti36, ti33, ti130, ti3, elemOfT, aindex, aconv, aconvert, ashift, IntKind.bits, aunop, onB_t, onB_f]; first | (refine hA ?_; clear hA hB A B) | (refine hB ?_; clear hA hB A B) | (refine onB_if (fun h => hA ?_) (fun h => hB ?_) <;> clear hA hB A B))
        | refine WP.q ?_ | refine WP.b ?_)
      exact ⟨d - i, by omega, i, d, rfl, hai, by omega, by omega, rfl, ⟨n, by omega, hbs⟩, by simp [g0], by simp [g2], by simp [g4], by simp [g14], by simp⟩
    · rw [bs_yes hlt (by rw [hmm]; simp [hc]), hmm] at hbs
      rw [e1, e2] at hc
      generalize D[d] = x at *
      generalize D[m] = y at *
      have rwx : Rw x = [.sl (x.map V.cs)] := rfl
      have rwy : Rw y = [.sl (y.map V.cs)] := rfl
      have hcm := hcmp y x s' oy ox
      repeat' (first
        | refine WP.t ?_ | refine WP.k ?_ | refine WP.e ?_ | refine Qn ?_ | refine Qr ?_ | refine Qe ?_ | refine Bn ?_ | refine Br ?_ | refine Be ?_ | refine Bx (by decide) ?_
        | (refine RS.nl ?_; refine hk _ _ ?_; clear hk k)
        | ((first | refine RS.st fun A B hA hB => ?_ | refine RQ.st fun A B hA hB => ?_); simp [hcm, g0, g2, g4, g14, g15, hlti, c1, c2, c3, c4, c5, p1, p2, hx, hy, rwx, rwy, hs, hc, ti36, ti33, ti130, ti3, elemOfT, aindex, aconv, aconvert, ashift, IntKind.bits, aunop, onW_t, onW_f, onV_s]; first | ((first | refine hA _ _ _ ?_ ?_ | refine hA _ _ _ ?_ (by first | exact .inl rfl | exact .inr (by decide)) ?_); (focus (simp [hcm, g0, g2, g4, g14, g15, hlti, c1, c2, c3, c4, c5, p1, p2, hx, hy, rwx, rwy, hs, hc, ti36, ti33, ti130, ti3, elemOfT, aindex, aconv, aconvert, ashift, IntKind.bits, aunop] <;> omega)); clear hA hB A B) | (refine hB ?_; clear hA hB A B) | (refine onV_if ?_ ?_; (focus (first | omega | (refine ⟨?_, ?_⟩ <;> omega))); simp only [onV_s]; (first | refine hA _ _ _ ?_ ?_ | refine hA _ _ _ ?_ (by first | exact .inl rfl | exact .inr (by decide)) ?_); (focus (simp [hcm, g0, g2, g4, g14, g15, hlti, c1, c2, c3, c4, c5, p1, p2, hx, hy, rwx, rwy, hs, hc, ti36, ti33, ti130, ti3, elemOfT, aindex, aconv, aconvert, ashift, IntKind.bits, aunop] <;> omega)); clear hA hB A B))
        | (refine RQ.nl ?_; refine hk _ _ ?_; clear hk k)
        | refine WP.sr fun k hk => ?_ | refine WP.r fun k hk => ?_
        | refine WP.sd _ rfl fun k hk => ?_ | refine WP.d _ rfl fun k hk => ?_
        | (refine WP.cc fun A B hA hB => ?_; simp [hcm, g0, g2, g4, g14, g15, hlti, c1, c2, c3, c4, c5, p1, p2, hx, hy, rwx, rwy, hs, hc, ti36, ti33, ti130, ti3, elemOfT, aindex, aconv, aconvert, ashift, IntKind.bits, aunop, onB_t, onB_f]; first | (refine hA ?_; clear hA hB A B) | (refine hB ?_; clear hA hB A B) | (refine onB_if (fun h => hA ?_) (fun h => hB ?_) <;> clear hA hB A B))
        | refine WP.q ?_ | refine WP.b ?_)
      exact ⟨j - (d + 1), by omega, d + 1, j, rfl, by omega, by omega, hjb, rfl, ⟨n, by omega, hbs⟩, by simp [g0], by simp [g2], by simp [g4], by simp, by simp [g15]⟩
  · have hlti : ¬ (i : Int) < (j : Int) := by omega
    rw [bs_end hlt] at hbs
    subst hbs
    repeat' (first
      | refine WP.t ?_ | refine WP.k ?_ | refine WP.e ?_ | refine Qn ?_ | refine Qr ?_ | refine Qe ?_ | refine Bn ?_ | refine Br ?_ | refine Be ?_ | refine Bx (by decide) ?_
      | (refine RS.nl ?_; refine hk _ _ ?_; clear hk k)
      | ((first | refine RS.st fun A B hA hB => ?_ | refine RQ.st fun A B hA hB => ?_); simp [g0, g2, g4, g14, g15, hlti, onW_t, onW_f, onV_s]; first | ((first | refine hA _ _ _ ?_ ?_ | refine hA _ _ _ ?_ (by first | exact .inl rfl | exact .inr (by decide)) ?_); (focus (simp [g0, g2, g4, g14, g15, hlti] <;> omega)); clear hA hB A B) | (refine hB ?_; clear hA hB A B) | (refine onV_if ?_ ?_; (focus (first | omega | (refine ⟨?_, ?_⟩ <;> omega))); simp only [onV_s]; (first | refine hA _ _ _ ?_ ?_ | refine hA _ _ _ ?_ (by first | exact .inl rfl | exact .inr (by decide)) ?_); (focus (simp [g0, g2, g4, g14, g15, hlti] <;> omega)); clear hA hB A B))
      | (refine RQ.nl ?_; refine hk _ _ ?_; clear hk k)
      | refine WP.sr fun k hk => ?_ | refine WP.r fun k hk => ?_
      | refine WP.sd _ rfl fun k hk => ?_ | refine WP.d _ rfl fun k hk => ?_
      | (refine WP.cc fun A B hA hB => ?_; simp [g0, g2, g4, g14, g15, hlti, onB_t, onB_f]; first | (refine hA ?_; clear hA hB A B) | (refine hB ?_; clear hA hB A B) | (refine onB_if (fun h => hA ?_) (fun h => hB ?_) <;> clear hA hB A B))
      | refine WP.q ?_ | refine WP.b ?_)
    refine WP_loop (fun q2 T2 s2 => ∃ (r : Nat) (D2 : Rows0), q2 = r ∧ r ≤ m ∧ s2 = s'.put id (rowO D2) ∧ D2.length = D.length ∧ movD i r D2 = movD i m D ∧ T2.get 0 = .ls id 0 D.length ∧ T2.get 14 = .int .i64 i ∧ T2.get 17 = .int .i64 r)
      m ⟨m, D, rfl, Nat.le_refl _, (St.put_self hs).symm, rfl, rfl, by simp [g0], by simp [g14], by simp⟩ ?_
    rintro q2 T2 s2 ⟨r, D2, hq2, hrm, rfl, hD2l, hmov, k0, k14, k17⟩
    by_cases hr : i < r
    · obtain ⟨r, rfl⟩ : ∃ z, r = z + 1 := ⟨r - 1, by omega⟩
      have hrlt : (i : Int) < (r : Int) + 1 := by omega
      have i1 : r < D2.length := by omega
      have i2 : r + 1 < D2.length := by omega
      have w5 : IntKind.i64.wrap (r : Int) = (r : Int) := wrap64 (by omega) (by omega)
      have p0 : 0 ≤ (r : Int) + 1 := by omega
      have p1 : (r : Int) < (D.length : Int) := by omega
      have p2 : (r : Int) + 1 < (D.length : Int) := by omega
      have p3 : ((r : Int) + 1).toNat = r + 1 := by omega
      have hx := encD_get i2
      have hy := encD_get i1
      have hsw : swp D2 (r + 1) r = (D2.set (r + 1) D2[r]).set r D2[r + 1] := swp_of i2 i1
      have hst : ∀ v, ((encD D2).set (r + 1) v)[r]? = some (Rw D2[r]) := fun v => by rw [List.getElem?_set_ne (by omega)]; exact hy
      have hstep : movD i (r + 1) D2 = movD i r (swp D2 (r + 1) r) := by conv => lhs; unfold movD
                                                                         rw [if_pos hr]
      rw [hstep] at hmov
      generalize D2[r] = x at *
      generalize D2[r + 1] = y at *
      repeat' (first
        | refine WP.sw 16 (by decide) (by decide) fun k hk => ?_
        | refine WP.w 16 (by decide) (by decide) fun k hk => ?_
        | refine WP.t ?_ | refine WP.k ?_ | refine WP.e ?_ | refine Qn ?_ | refine Qr ?_ | refine Qe ?_ | refine Bn ?_ | refine Br ?_ | refine Be ?_ | refine Bx (by decide) ?_
        | (refine RS.nl ?_; refine hk _ _ ?_; clear hk k)
        | ((first | refine RS.st fun A B hA hB => ?_ | refine RQ.st fun A B hA hB => ?_); simp [k0, k14, k17, hrlt, w5, p0, p1, p2, p3, hx, hy, ti36, ti33, elemOfT, aindex, St.get_put_same, hst, onW_t, onW_f, onV_s]; first | ((first | refine hA _ _ _ ?_ ?_ | refine hA _ _ _ ?_ (by first | exact .inl rfl | exact .inr (by decide)) ?_); (focus (simp [k0, k14, k17, hrlt, w5, p0, p1, p2, p3, hx, hy, ti36, ti33, elemOfT, aindex, St.get_put_same, hst] <;> omega)); clear hA hB A B) | (refine hB ?_; clear hA hB A B) | (refine onV_if ?_ ?_; (focus (first | omega | (refine ⟨?_, ?_⟩ <;> omega))); simp only [onV_s]; (first | refine hA _ _ _ ?_ ?_ | refine hA _ _ _ ?_ (by first | exact .inl rfl | exact .inr (by decide)) ?_); (focus (simp [k0, k14, k17, hrlt, w5, p0, p1, p2, p3, hx, hy, ti36, ti33, elemOfT, aindex, St.get_put_same, hst] <;> omega)); clear hA hB A B))
        | (refine RQ.nl ?_; refine hk _ _ ?_; clear hk k)
        | (refine RW.nl ?_ ?_; (focus (first | exact .inl (by decide) | (refine .inr ?_; (simp [k0, k14, k17, hrlt, w5, p0, p1, p2, p3, hx, hy, ti36, ti33, elemOfT, aindex, St.get_put_same, hst] <;> omega)))); refine hk _ _ ?_; clear hk k)
        | (refine RW.st ?_ fun A B hA hB => ?_; (focus (first | exact .inl (by decide) | (refine .inr ?_; (simp [k0, k14, k17, hrlt, w5, p0, p1, p2, p3, hx, hy, ti36, ti33, elemOfT, aindex, St.get_put_same, hst] <;> omega)))); simp [k0, k14, k17, hrlt, w5, p0, p1, p2, p3, hx, hy, ti36, ti33, elemOfT, aindex, St.get_put_same, hst, onW_t, onW_f, onV_s]; first | (refine hA _ _ _ ?_ ?_ ?_ ?_; (focus (simp [k0, k14, k17, hrlt, w5, p0, p1, p2, p3, hx, hy, ti36, ti33, elemOfT, aindex, St.get_put_same, hst] <;> omega)); (focus (first | exact .inl (by decide) | exact .inr (.inl rfl) | exact .inr (.inr rfl))); (focus (first | exact .inl (by decide) | exact .inr (.inl (by decide)) | (refine .inr (.inr fun s2 hs2 => ?_); have hs2n := hs2.nx; simp only [Keep_cons, Keep_nil] at hs2; simp [k0, k14, k17, hrlt, w5, p0, p1, p2, p3, hx, hy, ti36, ti33, elemOfT, aindex, St.get_put_same, hst, hs2, hs2n]; done))); clear hA hB A B) | (refine hB ?_; clear hA hB A B))
        | refine WP.sr fun k hk => ?_ | refine WP.r fun k hk => ?_
        | (refine WP.swK [] ?_ fun k hk => ?_; (focus (decide))) | (refine WP.wK [] ?_ fun k hk => ?_; (focus (decide))) | refine WP.sd _ rfl fun k hk => ?_ | refine WP.d _ rfl fun k hk => ?_
        | (refine WP.cc fun A B hA hB => ?_; simp [k0, k14, k17, hrlt, w5, p0, p1, p2, p3, hx, hy, ti36, ti33, elemOfT, aindex, St.get_put_same, hst, onB_t, onB_f]; first | (refine hA ?_; clear hA hB A B) | (refine hB ?_; clear hA hB A B) | (refine onB_if (fun h => hA ?_) (fun h => hB ?_) <;> clear hA hB A B))
        | refine WP.q ?_ | refine WP.b ?_)
      refine ⟨r, by omega, r, swp D2 (r + 1) r, rfl, by omega, ?_, by rw [swp_length]; exact hD2l, hmov, by simp [k0], by simp [k14], by simp⟩
      rw [St.put_put, St.put_put, hsw]
      simp only [Rw_def, Rw_tail, encD_set]
    · have hrlt : ¬ (i : Int) < (r : Int) := by omega
      have hre : movD i r D2 = D2 := by
        cases r with
        | zero => rfl
        | succ r => unfold movD; rw [if_neg hr]
      rw [hre] at hmov
      repeat' (first
        | refine WP.t ?_ | refine WP.k ?_ | refine WP.e ?_ | refine Qn ?_ | refine Qr ?_ | refine Qe ?_ | refine Bn ?_ | refine Br ?_ | refine Be ?_ | refine Bx (by decide) ?_
        | (refine RS.nl ?_; refine hk _ _ ?_; clear hk k)
        | ((first | refine RS.st fun A B hA hB => ?_ | refine RQ.st fun A B hA hB => ?_); simp [k0, k14, k17, hrlt, onW_t, onW_f, onV_s]; first | ((first | refine hA _ _ _ ?_ ?_ | refine hA _ _ _ ?_ (by first | exact .inl rfl | exact .inr (by decide)) ?_); (focus (simp [k0, k14, k17, hrlt] <;> omega)); clear hA hB A B) | (refine hB ?_; clear hA hB A B) | (refine onV_if ?_ ?_; (focus (first | omega | (refine ⟨?_, ?_⟩ <;> omega))); simp only [onV_s]; (first | refine hA _ _ _ ?_ ?_ | refine hA _ _ _ ?_ (by first | exact .inl rfl | exact .inr (by decide)) ?_); (focus (simp [k0, k14, k17, hrlt] <;> omega)); clear hA hB A B))
        | (refine RQ.nl ?_; refine hk _ _ ?_; clear hk k)
        | refine WP.sr fun k hk => ?_ | refine WP.r fun k hk => ?_
        | refine WP.sd _ rfl fun k hk => ?_ | refine WP.d _ rfl fun k hk => ?_
        | (refine WP.cc fun A B hA hB => ?_; simp [k0, k14, k17, hrlt, onB_t, onB_f]; first | (refine hA ?_; clear hA hB A B) | (refine hB ?_; clear hA hB A B) | (refine onB_if (fun h => hA ?_) (fun h => hB ?_) <;> clear hA hB A B))
        | refine WP.q ?_ | refine WP.b ?_)
      rw [← hmov]
      exact finRow (.inr rfl) hid rfl
end
end Go.Am
