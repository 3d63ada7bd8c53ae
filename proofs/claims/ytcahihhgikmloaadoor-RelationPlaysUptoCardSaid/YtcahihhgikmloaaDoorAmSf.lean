/- Part of the proof: abstract values over the given model of Go (S9, S10, S11, S12). Conditions: none of its own; see the statement in the seat's Rows text. -/
import Derived.Test.YtcahihhgikmloaaDoorAmSe
set_option linter.unusedSimpArgs false
set_option linter.unusedVariables false
set_option linter.unusedSectionVars false
namespace Go.Am
open Go.Proofs
/-! ### a table that grows -/
def Ext (tab tab' : List V) : Prop := ∀ u i, findF u tab = some i → findF u tab' = some i
def putAll (tab t : List V) : List V := t.foldl putV tab
theorem Ext.refl (tab : List V) : Ext tab tab := fun _ _ h => h
theorem Ext.trans {a b c : List V} (h : Ext a b) (k : Ext b c) : Ext a c := fun u i hu => k u i (h u i hu)
theorem Ext.isSome {a b : List V} (h : Ext a b) {u : V} (hu : (findF u a).isSome = true) : (findF u b).isSome = true := by
  obtain ⟨i, hi⟩ := Option.isSome_iff_exists.1 hu
  rw [h u i hi]; rfl
theorem Ext.idx {a b : List V} (h : Ext a b) {u : V} (hu : (findF u a).isSome = true) : idx b u = idx a u := by
  obtain ⟨i, hi⟩ := Option.isSome_iff_exists.1 hu
  simp only [Go.Am.idx, hi, h u i hi]
theorem Ext.allIn {a b : List V} (h : Ext a b) {t : List V} (ht : allIn a t = true) : allIn b t = true :=
  List.all_eq_true.2 fun v hv => h.isSome (List.all_eq_true.1 ht v hv)
theorem Ext.idxs {a b : List V} (h : Ext a b) {t : List V} (ht : Go.Am.allIn a t = true) : idxs b t = idxs a t :=
  List.map_congr_left fun v hv => h.idx (List.all_eq_true.1 ht v hv)
theorem ext_putV (tab : List V) (v : V) : Ext tab (putV tab v) := fun u i hu => by
  unfold putV
  split
  · exact hu
  · exact findF_snoc_old _ hu
theorem putV_in (tab : List V) (v : V) : (findF (bareV v) (putV tab v)).isSome = true := by
  unfold putV
  split
  · rename_i i h; rw [h]; rfl
  · rename_i h; rw [findF_snoc_new _ _ h]; rfl
theorem putV_len (tab : List V) (v : V) : (putV tab v).length ≤ tab.length + 1 := by
  unfold putV
  split <;> simp
theorem putAll_take {tab t : List V} {i : Nat} (h : i < t.length) : putAll tab (t.take (i + 1)) = putV (putAll tab (t.take i)) t[i] := by
  unfold putAll
  rw [List.take_succ_eq_append_getElem h, List.foldl_append]
  rfl
theorem putAll_ext : ∀ (t tab : List V), Ext tab (putAll tab t)
  | [], tab => Ext.refl _
  | v :: t, tab => (ext_putV tab v).trans (putAll_ext t _)
theorem putAll_len : ∀ (t tab : List V), (putAll tab t).length ≤ tab.length + t.length
  | [], tab => Nat.le_refl _
  | v :: t, tab => by
    have h1 := putAll_len t (putV tab v)
    have h2 := putV_len tab v
    simp only [putAll, List.foldl_cons, List.length_cons] at h1 ⊢
    omega
theorem putAll_in : ∀ (t tab : List V), allIn (putAll tab t) t = true
  | [], tab => rfl
  | v :: t, tab => by
    have h := putAll_in t (putV tab v)
    simp only [allIn, List.all_cons, Bool.and_eq_true]
    exact ⟨(putAll_ext t (putV tab v)).isSome (putV_in tab v), h⟩
theorem atL_ext {a b : List V} (h : Ext a b) : ∀ {R : List (List V × Nat)} {k : Nat}, (∀ r ∈ R, allIn a r.1 = true) → atL b k R = atL a k R
  | [], k, _ => rfl
  | r :: R, k, hr => by
    rw [atL, atL, h.idxs (hr r (by simp)), atL_ext h fun r h => hr r (by simp [h])]
theorem rowC_ext {a b : List V} (h : Ext a b) {R : List (List V × Nat)} (hr : ∀ r ∈ R, allIn a r.1 = true) : R.map (rowC b) = R.map (rowC a) :=
  List.map_congr_left fun r h' => by rw [rowC, rowC, h.idxs (hr r h')]
theorem atF_ext {a b : List V} (h : Ext a b) (x : List UInt8) : ∀ {R : List (List V × Nat)}, (∀ r ∈ R, allIn a r.1 = true) → atF x b R = atF x a R
  | [], _ => rfl
  | r :: R, hr => by
    rw [atF, atF, h.idxs (hr r (by simp)), atF_ext h x fun r h => hr r (by simp [h])]
def hasP : List AV → St → AV → St → List Nat → Prop := fun xs s r s' l => ∀ rid t, xs = [.ptr rid 0, .sl (t.map V.cs)] → ∀ l0 lt tid atid ar tab R rw, RelD s l0 lt rid tid atid ar tab R rw →
  r = .bool (decide (t.length = ar) && hasR R t) ∧ s' = s ∧ l = []
theorem OBelow_at (tab : List V) (n : Nat) (R : List (List V × Nat)) : OBelow n (.map (atL tab 0 R)) := by
  have key : ∀ (R : List (List V × Nat)) (k : Nat) (x : AV × AV), x ∈ atL tab k R → ∃ a b, x = (.str a, .int .i64 b) := by
    intro R
    induction R with
    | nil => intro k x h; cases h
    | cons r R ih =>
      intro k x h
      rw [atL, List.mem_cons] at h
      rcases h with rfl | h
      · exact ⟨_, _, rfl⟩
      · exact ih _ x h
  refine .map _ fun i x hx => ?_
  obtain ⟨a, b, rfl⟩ := key R 0 x (List.mem_of_getElem? hx)
  exact ⟨.str _, .int _ _⟩
theorem below_slV (n : Nat) (t : List V) : Below n (.sl (t.map V.cs)) := by simp [V.cs]
theorem below_slN (n : Nat) (t : List Nat) : Below n (.sl (nums t)) := below_sl.2 (below_nums n t)
theorem OBelow_rowR (tab : List V) (n : Nat) (wr : RK) (R : List (List V × Nat)) : OBelow n (.row 3 wr (R.map (rowC tab))) := OBelow_row fun e he x hx => by
  obtain ⟨r, _, rfl⟩ := List.mem_map.1 he
  simp only [rowC, List.mem_cons, List.mem_nil_iff, or_false] at hx
  rcases hx with rfl | rfl | rfl
  · exact below_slV _ _
  · exact below_slN _ _
  · exact .int _ _
theorem OBelow_rel {n tid ar atid : Nat} {rw : AV} (h1 : tid < n) (h2 : atid < n) (h3 : Below n rw) : OBelow n (relO tid ar rw atid) := OBelow_var fun x hx => by
  simp only [List.mem_cons, List.mem_nil_iff, or_false] at hx
  rcases hx with rfl | rfl | rfl | rfl
  · exact .ptr _ _ h1
  · exact .int _ _
  · exact h3
  · exact .map _ h2
theorem Own.keep {s s1 : St} {l : List Nat} (h : Own s l) (hn : s.nx ≤ s1.nx) (hg : ∀ i ∈ l, s1.get i = s.get i) : Own s1 l := fun i hi => by
  obtain ⟨h1, h2⟩ := h i hi
  refine ⟨Nat.lt_of_lt_of_le h1 hn, fun o ho => ?_⟩
  rw [hg i hi] at ho
  exact (h2 o ho).up hn
/-- The end of Add: the new row is behind the others. -/
theorem add_end {s s1 s3 : St} {l lt lt' : List Nat} {rid tid atid ar : Nat} {tab tab' : List V} {R : List (List V × Nat)} {rw : AV} {t : List V}
    (h : RelD s l lt rid tid atid ar tab R rw) (hl : t.length = ar) (hno : hasR R t = false) (hx : Ext tab tab') (hin : allIn tab' t = true) (hlen : tab'.length ≤ tab.length + 6)
    (he : Eff lt s s1) (hT : Tab s1 lt' tid tab') (ho : Own s1 lt') (hl' : ∀ i ∈ lt', i ∈ lt ∨ s.nx ≤ i)
    (hs : (R = [] ∧ s3 = ((s1.put atid (.map (atL tab' 0 (R ++ [(t.map bareV, 0)])))).push (.row 3 (true, 75) (R.map (rowC tab') ++ [rowC tab' (t.map bareV, 0)]))).put rid (relO tid ar (.ls s1.nx 0 (R.length + 1)) atid)) ∨
      (R ≠ [] ∧ ∃ rd, rw = .ls rd 0 R.length ∧ s3 = (((s1.put atid (.map (atL tab' 0 (R ++ [(t.map bareV, 0)])))).drop rd).push (.row 3 (true, 75) (R.map (rowC tab') ++ [rowC tab' (t.map bareV, 0)]))).put rid (relO tid ar (.ls s1.nx 0 (R.length + 1)) atid))) :
    Eff l s s3 ∧ ∃ l', RelP s3 l' rid ar (R ++ [(t.map bareV, 0)]) ∧ ∀ i ∈ l', i ∈ l ∨ (s.nx ≤ i ∧ i < s3.nx) := by
  have e0 : R.map (rowC tab') ++ [rowC tab' (t.map bareV, 0)] = (R ++ [(t.map bareV, 0)]).map (rowC tab') := by simp
  rw [e0] at hs
  have hr1 := (h.own rid h.hr).1
  have hr2 := (h.own atid h.hat).1
  have hnx := he.nx
  have hEl : Eff l s s1 := he.mono h.own h.sub
  have q1 := h.ht.var
  obtain ⟨mid, c, p1, p2, p3, p4, p5, p6⟩ := q1
  have nrid : rid ∉ lt' := fun hm => (hl' rid hm).elim h.nr fun h => by omega
  have nat : atid ∉ lt' := fun hm => (hl' atid hm).elim h.na fun h => by omega
  have hrd : ∀ rd, R ≠ [] → rw = .ls rd 0 R.length → rd ∈ l ∧ rd ≠ rid ∧ rd ≠ atid ∧ rd ∉ lt' ∧ rd < s.nx := fun rd hne hrw => by
    rcases h.rows with ⟨h1, _⟩ | ⟨_, rd', h1, h2, h3, h4, h5, _⟩
    · exact absurd h1 hne
    · rw [hrw] at h5
      simp only [AV.ls.injEq] at h5
      obtain ⟨rfl, _⟩ := h5
      have := (h.own rd h1).1
      exact ⟨h1, h3, h4, fun hm => (hl' rd hm).elim h2 fun h => by omega, this⟩
  have hE3 : Eff l s s3 := by
    rcases hs with ⟨_, rfl⟩ | ⟨hne, rd, hrw, rfl⟩
    · exact Eff.put (Eff.push (Eff.put hEl (.inl h.hat) (OBelow_at _ _ _)) (OBelow_rowR _ _ _ _)) (.inl h.hr) (OBelow_rel (by simp; omega) (by simp; omega) (.ls _ _ _ (by simp)))
    · exact Eff.put (Eff.push (Eff.drop (Eff.put hEl (.inl h.hat) (OBelow_at _ _ _)) (.inl (hrd rd hne hrw).1)) (OBelow_rowR _ _ _ _)) (.inl h.hr) (OBelow_rel (by simp; omega) (by simp; omega) (.ls _ _ _ (by simp)))
  have hn3 : s3.nx = s1.nx + 1 := by
    rcases hs with ⟨_, rfl⟩ | ⟨hne, rd, hrw, rfl⟩ <;> simp
  have n1 : ¬ atid = rid := fun h' => h.ra h'.symm
  have n2 : ¬ s1.nx = rid := by omega
  have n3 : ¬ s1.nx = atid := by omega
  have n4 : ¬ atid = s1.nx := by omega
  have g1 : s3.get rid = some (relO tid ar (.ls s1.nx 0 (R.length + 1)) atid) := by
    rcases hs with ⟨_, rfl⟩ | ⟨hne, rd, hrw, rfl⟩ <;> simp [St.get_put]
  have g2 : s3.get atid = some (.map (atL tab' 0 (R ++ [(t.map bareV, 0)]))) := by
    rcases hs with ⟨_, rfl⟩ | ⟨hne, rd, hrw, rfl⟩
    · simp [St.get_put, St.get_push, n1, n4]
    · have a5 : ¬ atid = rd := fun e => (hrd rd hne hrw).2.2.1 e.symm
      simp [St.get_put, St.get_push, St.get_drop, n1, n4, a5]
  have g3 : s3.get s1.nx = some (.row 3 (true, 75) ((R ++ [(t.map bareV, 0)]).map (rowC tab'))) := by
    rcases hs with ⟨_, rfl⟩ | ⟨hne, rd, hrw, rfl⟩
    · simp [St.get_put, St.get_push, n2]
    · simp only [St.get_put, n2, if_false]
      have e : s1.nx = ((s1.put atid (.map (atL tab' 0 (R ++ [(t.map bareV, 0)])))).drop rd).nx := rfl
      rw [e, St.get_push_same]
  have g4 : ∀ i ∈ lt', s3.get i = s1.get i := fun i hi => by
    have a1 : ¬ i = rid := fun e => nrid (e ▸ hi)
    have a2 : ¬ i = atid := fun e => nat (e ▸ hi)
    have a3 : ¬ i = s1.nx := fun e => by have := (ho i hi).1; omega
    rcases hs with ⟨_, rfl⟩ | ⟨hne, rd, hrw, rfl⟩
    · simp [St.get_put, St.get_push, a1, a2, a3]
    · have a4 : ¬ i = rd := fun e => (hrd rd hne hrw).2.2.2.1 (e ▸ hi)
      simp [St.get_put, St.get_push, St.get_drop, a1, a2, a3, a4]
  have hrowin : ∀ r ∈ R, allIn tab r.1 = true := fun r hr => (h.ok.row r hr).2.1
  have htb : allIn tab' (t.map bareV) = true := by
    rw [← hin]
    exact allIn_bare (by rw [List.map_map]; exact List.map_congr_left fun v _ => bareV_bare v)
  refine ⟨hE3, rid :: atid :: s1.nx :: lt', ⟨lt', tid, atid, tab', .ls s1.nx 0 (R.length + 1), ?_⟩, fun i hi => ?_⟩
  · refine ⟨hT.keep (by omega) g4, fun i hi => by simp [hi], by simp, by simp, nrid, nat, h.ra, ?_, g1, g2, .inr ⟨by simp, s1.nx, by simp, fun hm => ?_, n2, n3, by simp, g3⟩, ?_⟩
    · refine Own.cons (by omega) (fun o ho' => ?_) (Own.cons (by omega) (fun o ho' => ?_) (Own.cons (by omega) (fun o ho' => ?_) (ho.keep (by omega) g4)))
      · rw [g1] at ho'; cases ho'
        exact OBelow_rel (by omega) (by omega) (.ls _ _ _ (by omega))
      · rw [g2] at ho'; cases ho'; exact OBelow_at _ _ _
      · rw [g3] at ho'; cases ho'; exact OBelow_rowR _ _ _ _
    · have := (ho _ hm).1; omega
    · refine ⟨h.ok.arle, fun r hr => ?_, ?_, ?_⟩
      · rcases List.mem_append.1 hr with hr | hr
        · obtain ⟨a1, a2, a3, a4⟩ := h.ok.row r hr
          exact ⟨a1, hx.allIn a2, a3, a4⟩
        · simp only [List.mem_singleton] at hr
          subst hr
          refine ⟨by simp [hl], htb, ?_, by simp⟩
          show List.map bareV (t.map bareV) = t.map bareV
          rw [List.map_map]
          exact List.map_congr_left fun v _ => bareV_bare v
      · rw [List.map_append, List.nodup_append]
        refine ⟨h.ok.nd, by simp, fun a ha b hb e => ?_⟩
        simp only [List.map_cons, List.map_nil, List.mem_singleton] at hb
        subst hb
        subst e
        exact absurd ha (of_decide_eq_false hno)
      · have := h.ok.len
        simp only [List.length_append, List.length_cons, List.length_nil]
        omega
  · simp only [List.mem_cons] at hi
    rcases hi with rfl | rfl | rfl | hi
    · exact .inl h.hr
    · exact .inl h.hat
    · exact .inr (by omega)
    · rcases hl' i hi with h1 | h1
      · exact .inl (h.sub i h1)
      · exact .inr ⟨h1, by have := (ho i hi).1; omega⟩
section
variable {K : Nat} {gw : World} {s : St}
attribute [local simp] awanted xop zOf zrow aop ev T0 Slots.put Slots.set Slots.get awr WOk AV.may ofConst abinop aint isConst St.get_push St.get_put St.live AV.fit AV.cells AV.one fieldOf afieldAddr aload ofCells astore splice May eqres env_ti FinP FinZ FinW ares aresL ares1 Fns.addP Fns.add Fns.a0 Fns.a1 Fns.a2 Fns.a3 Fns.a4 abuiltin alenOk alen aindex elemOfT elemId abuildSlice afill chunks ard aappend isSS AV.isStr aminmax placesOf abuild afield aidx isStrD isStrDesc astrop aslice asliceOk abound arange anext aextract aunop aeq AV.ck avseq aveq aconv aconvert onB_t onB_f List.range_succ ti0 ti1 ti2 ti3 ti4 ti5 ti6 ti7 ti8 ti9 ti10 ti11 ti12 ti13 ti14 ti15 ti16 ti17 ti18 ti19 ti20 ti21 ti22 ti23 ti24 ti25 ti26 ti27 ti28 ti29 ti30 ti31 ti32 ti33 ti34 ti35 ti36 ti37 ti38 ti39 ti40 ti41 ti42 ti43 ti44 ti45 ti46 ti47 ti48 ti49 ti50 ti51 ti52 ti53 ti54 ti55 ti56 ti57 ti58 ti59 ti60 ti61 ti62 ti63 ti64 ti65 ti66 ti67 ti68 ti69 ti70 ti71 ti72 ti73 ti74 ti75 ti76 ti77 ti78 ti79 ti80 ti81 ti82 ti83 ti84 ti85 ti86 ti87 ti88 ti89 ti90 ti91 ti92 ti93 ti94 ti95 ti96 ti97 ti98 ti99 ti100 ti101 ti102 ti103 ti104 ti105 ti106 ti107 ti108 ti109 ti110 ti111 ti112 ti113 ti114 ti115 ti116 ti117 ti118 ti119 ti120 ti121 ti122 ti123 ti124 ti125 ti126 ti127 ti128 ti129 ti130 ti131 ti132 ti133 ti134 ti135 ti136 ti137 ti138 ti139 ti140 ti141 ti142 ti143 ti144 ti145 ti146 ti147
noncomputable def X5 (K : Nat) (gw : World) : Fns := (X4 K gw).ch (env K gw) 17 hasP
theorem X5_ok (hK : 0 < K) (hT : Tens gw) : FOk (env K gw) (X5 K gw) := (X4_ok hK hT).ch
theorem RelD.det {l lt l2 lt2 : List Nat} {rid tid atid ar tid2 atid2 ar2 : Nat} {tab tab2 : List V} {R R2 : List (List V × Nat)} {rw rw2 : AV}
    (h : RelD s l lt rid tid atid ar tab R rw) (h2 : RelD s l2 lt2 rid tid2 atid2 ar2 tab2 R2 rw2) : tid2 = tid ∧ atid2 = atid ∧ ar2 = ar ∧ tab2 = tab ∧ R2 = R ∧ rw2 = rw := by
  have e := h.g.symm.trans h2.g
  simp only [relO, Option.some.injEq, AObj.var.injEq, List.cons.injEq, AV.ptr.injEq, AV.int.injEq, AV.map.injEq, true_and, and_true] at e
  obtain ⟨rfl, e2, rfl, rfl⟩ := e
  have e3 : ar2 = ar := by omega
  subst e3
  obtain rfl := h.ht.num h2.ht
  refine ⟨rfl, rfl, rfl, rfl, ?_, rfl⟩
  rcases h.rows with ⟨rfl, h3⟩ | ⟨hne, rd, _, _, _, _, h3, h4⟩
  · rcases h2.rows with ⟨rfl, _⟩ | ⟨_, rd, _, _, _, _, h5, _⟩
    · rfl
    · rw [h3] at h5; cases h5
  · rcases h2.rows with ⟨rfl, h5⟩ | ⟨_, rd2, _, _, _, _, h5, h6⟩
    · rw [h3] at h5; cases h5
    · rw [h3] at h5
      simp only [AV.ls.injEq, true_and] at h5
      obtain ⟨rfl, _⟩ := h5
      rw [h4] at h6
      simp only [Option.some.injEq, AObj.row.injEq, true_and] at h6
      have key : ∀ (a b : List (List V × Nat)), a.map (rowC tab) = b.map (rowC tab) → a = b := by
        intro a
        induction a with
        | nil => intro b hb; cases b <;> simp at hb ⊢
        | cons x a ih =>
          intro b hb
          cases b with
          | nil => simp at hb
          | cons y b =>
            simp only [List.map_cons, List.cons.injEq, rowC, AV.sl.injEq, AV.int.injEq, true_and, and_true] at hb
            obtain ⟨⟨h7, _, h8⟩, h9⟩ := hb
            rw [ih b h9]
            have h10 : x = y := Prod.ext (map_cs_inj h7) (by omega)
            rw [h10]
      exact (key _ _ h6).symm
theorem X5_has (hK : 0 < K) (hT : Tens gw) {l lt : List Nat} {rid tid atid ar : Nat} {tab : List V} {R : List (List V × Nat)} {rw : AV} (h : RelD s l lt rid tid atid ar tab R rw) (t : List V) (hl : t.length < 1073741824) (hR : R.length < 16777216) :
    X5 K gw 17 [.ptr rid 0, .sl (t.map V.cs)] s = some (.bool (decide (t.length = ar) && hasR R t), s, []) := by
  have hp : hasP [.ptr rid 0, .sl (t.map V.cs)] s (.bool (decide (t.length = ar) && hasR R t)) s [] := by
    intro rid' t' he l2 lt2 tid2 atid2 ar2 tab2 R2 rw2 h2
    simp only [List.cons.injEq, AV.ptr.injEq, AV.sl.injEq, and_true] at he
    obtain ⟨rfl, he⟩ := he
    obtain rfl := map_cs_inj he
    obtain ⟨_, _, rfl, _, rfl, _⟩ := h.det h2
    exact ⟨rfl, rfl, rfl⟩
  obtain ⟨r, s', l', h5, h6⟩ := Fns.ch_some (P := hasP) (F := X4 K gw) (l := []) ((ft_Has (K := K) (gw := gw) hK hT h t hl hR).wider (W' := fun i => i ∈ ([] : List Nat)) fun i h => h.elim) hp
  obtain ⟨rfl, rfl, rfl⟩ := h6 rid t rfl l lt tid atid ar tab R rw h
  exact h5
theorem X5_base {f : FuncId} {xs : List AV} (h : f ∉ [17, 32, 38, 31, 52, 45, 44, 43]) : X5 K gw f xs s = V2 f xs s := by
  simp only [List.mem_cons, List.mem_nil_iff, or_false, not_or] at h
  obtain ⟨h1, h2, h3, h4, h5, h6, h7, h8⟩ := h
  unfold X5 X4 X3 X2 X1
  rw [Fns.ch_other h1, Fns.ch_other h2, Fns.ch_other h3, Fns.ch_other h4, Fns.ch_other h5, Fns.addP, if_neg h6, Fns.ch_other h7, Fns.ch_other h8, Fns.addP, if_neg h6]
theorem X5_put (hK : 0 < K) (hT : Tens gw) {l : List Nat} {tid : Nat} (v : V) {vs : List V} (h : Tab s l tid vs) (ho : Own s l) (hl : vs.length < 1073741824) :
    ∃ s' ids, X5 K gw 31 [.ptr tid 0, .agg v.cs] s = some (.int .i64 (idx (putV vs v) (bareV v) : Nat), s', ids) ∧ (∀ i ∈ ids, i ∈ l) ∧ Eff l s s' ∧ ∃ l', Tab s' l' tid (putV vs v) ∧ Own s' l' ∧ ∀ i ∈ l', i ∈ l ∨ (s.nx ≤ i ∧ i < s'.nx) := by
  obtain ⟨s', ids, h1, h2⟩ := X3_put (K := K) (gw := gw) hK hT v h ho hl
  refine ⟨s', ids, ?_, h2⟩
  unfold X5 X4
  rw [Fns.ch_other (by decide), Fns.ch_other (by decide), Fns.ch_other (by decide)]
  exact h1
theorem X5_name (hK : 0 < K) (hT : Tens gw) (l : List Nat) (hl : l.length < 1073741824) (hn : ∀ n ∈ l, n < 9223372036854775807) :
    X5 K gw 32 [.sl (nums l)] s = some (.str (nameT l), s, []) := by
  unfold X5
  rw [Fns.ch_other (by decide)]
  exact X4_name hK hT l hl hn
theorem X5_of (t : List V) (hl : t.length < 1073741824) : X5 K gw 33 [.sl (t.map V.cs)] s = some (.sl ((t.map bareV).map V.cs), s, []) := by
  rw [X5_base (by decide)]
  simp only [V2, V1, V0, F17, F16, F15, F14, F12, Fns.addP]
  simp [pOf, decL_map, hl]
end
end Go.Am
namespace Go.Am
open Go.Proofs
theorem Gh.trans {n0 : Nat} {T T1 T2 : Slots} {s s1 s2 : St} (h : Gh n0 T s T1 s1) (k : Gh n0 T1 s1 T2 s2) : Gh n0 T s T2 s2 := by
  induction h with
  | refl T s => exact k
  | fz i id sz kk es hT hs h0 _ ih => exact .fz i id sz kk es hT hs h0 (ih k)
  | nl i hT _ ih => exact .nl i hT (ih k)
  | nr i o hT _ ih => exact .nr i o hT (ih k)
  | weak hT _ ih => exact .weak hT (ih k)
theorem WP.gh {C : Cx} {F : Fns} {x y : Code} {Q : Exit → Slots → St → Prop} {T T1 : Slots} {s s1 : St} (h : Gh C.n0 T s T1 s1) (k : WP C F (.seq x y) Q T1 s1) : WP C F (.seq x y) Q T s := by
  rw [WP_seq] at k ⊢
  obtain ⟨T', s', g, k⟩ := k
  exact ⟨T', s', h.trans g, k⟩
section
variable {K : Nat} {gw : World} {s : St}
attribute [local simp] awanted xop zOf zrow aop ev T0 Slots.put Slots.set Slots.get awr WOk AV.may ofConst abinop aint isConst St.get_push St.get_put St.live AV.fit AV.cells AV.one fieldOf afieldAddr aload ofCells astore splice May eqres env_ti FinP FinZ FinW ares aresL ares1 Fns.addP Fns.add Fns.a0 Fns.a1 Fns.a2 Fns.a3 Fns.a4 abuiltin alenOk alen aindex elemOfT elemId abuildSlice afill chunks ard aappend isSS AV.isStr aminmax placesOf abuild afield aidx isStrD isStrDesc astrop aslice asliceOk abound arange anext aextract aunop aeq AV.ck avseq aveq aconv aconvert onB_t onB_f List.range_succ ti0 ti1 ti2 ti3 ti4 ti5 ti6 ti7 ti8 ti9 ti10 ti11 ti12 ti13 ti14 ti15 ti16 ti17 ti18 ti19 ti20 ti21 ti22 ti23 ti24 ti25 ti26 ti27 ti28 ti29 ti30 ti31 ti32 ti33 ti34 ti35 ti36 ti37 ti38 ti39 ti40 ti41 ti42 ti43 ti44 ti45 ti46 ti47 ti48 ti49 ti50 ti51 ti52 ti53 ti54 ti55 ti56 ti57 ti58 ti59 ti60 ti61 ti62 ti63 ti64 ti65 ti66 ti67 ti68 ti69 ti70 ti71 ti72 ti73 ti74 ti75 ti76 ti77 ti78 ti79 ti80 ti81 ti82 ti83 ti84 ti85 ti86 ti87 ti88 ti89 ti90 ti91 ti92 ti93 ti94 ti95 ti96 ti97 ti98 ti99 ti100 ti101 ti102 ti103 ti104 ti105 ti106 ti107 ti108 ti109 ti110 ti111 ti112 ti113 ti114 ti115 ti116 ti117 ti118 ti119 ti120 ti121 ti122 ti123 ti124 ti125 ti126 ti127 ti128 ti129 ti130 ti131 ti132 ti133 ti134 ti135 ti136 ti137 ti138 ti139 ti140 ti141 ti142 ti143 ti144 ti145 ti146 ti147
theorem ft_Add0 (x : AV) : FT (env K gw) NoW 12 [.np, x] s (.tup [.bool false, .int .i64 1]) s := by
  refine FT.pure (fn := Tryd.f12) F0_ok mixed Tryd.func12 (by kernel_rfl) (by rfl) rfl rfl (by simp) rfl fun μ w => ?_
  repeat' (first
    | refine WP.t ?_ | refine WP.k ?_ | refine WP.e ?_ | refine Qn ?_ | refine Qr ?_ | refine Qe ?_ | refine Bn ?_ | refine Br ?_ | refine Be ?_ | refine Bx (by decide) ?_
    | (refine RS.nl ?_; refine hk _ _ ?_; clear hk k)
    | ((first | refine RS.st fun A B hA hB => ?_ | refine RQ.st fun A B hA hB => ?_); simp [onW_t, onW_t, onW_f, onV_s]; first | ((first | refine hA _ _ _ ?_ ?_ | refine hA _ _ _ ?_ (by first | exact .inl rfl | exact .inr (by decide)) ?_); (focus (simp [onW_t] <;> omega)); clear hA hB A B) | (refine hB ?_; clear hA hB A B) | (refine onV_if ?_ ?_; (focus (first | omega | (refine ⟨?_, ?_⟩ <;> omega))); simp only [onV_s]; (first | refine hA _ _ _ ?_ ?_ | refine hA _ _ _ ?_ (by first | exact .inl rfl | exact .inr (by decide)) ?_); (focus (simp [onW_t] <;> omega)); clear hA hB A B))
    | (refine RQ.nl ?_; refine hk _ _ ?_; clear hk k)
    | refine WP.sr fun k hk => ?_ | refine WP.r fun k hk => ?_
    | refine WP.sd _ rfl fun k hk => ?_ | refine WP.d _ rfl fun k hk => ?_
    | (refine WP.cc fun A B hA hB => ?_; simp [onW_t, onB_t, onB_f]; first | (refine hA ?_; clear hA hB A B) | (refine hB ?_; clear hA hB A B) | (refine onB_if (fun h => hA ?_) (fun h => hB ?_) <;> clear hA hB A B))
    | refine WP.q ?_ | refine WP.b ?_)
  simp
theorem ft_AddL (hK : 0 < K) (hT : Tens gw) {l lt : List Nat} {rid tid atid ar : Nat} {tab : List V} {R : List (List V × Nat)} {rw : AV} (h : RelD s l lt rid tid atid ar tab R rw) (t : List V) (hl : ¬ t.length = ar) :
    FT (env K gw) NoW 12 [.ptr rid 0, .sl (t.map V.cs)] s (.tup [.bool false, .int .i64 1]) s := by
  refine FT.pure (fn := Tryd.f12) F0_ok mixed Tryd.func12 (by kernel_rfl) (by rfl) rfl rfl (by simp) rfl fun μ w => ?_
  have hg := h.g
  have hr := (h.own rid h.hr).1
  have hc2 : ¬ ((t.length : Int) = (ar : Int)) := by omega
  have hb : ((t.length : Int) != (ar : Int)) = true := by simpa using hc2
  repeat' (first
    | refine WP.t ?_ | refine WP.k ?_ | refine WP.e ?_ | refine Qn ?_ | refine Qr ?_ | refine Qe ?_ | refine Bn ?_ | refine Br ?_ | refine Be ?_ | refine Bx (by decide) ?_
    | (refine RS.nl ?_; refine hk _ _ ?_; clear hk k)
    | ((first | refine RS.st fun A B hA hB => ?_ | refine RQ.st fun A B hA hB => ?_); simp [hg, relO, hr, hb, anilCheck, onW_t, onW_f, onV_s]; first | ((first | refine hA _ _ _ ?_ ?_ | refine hA _ _ _ ?_ (by first | exact .inl rfl | exact .inr (by decide)) ?_); (focus (simp [hg, relO, hr, hb, anilCheck] <;> omega)); clear hA hB A B) | (refine hB ?_; clear hA hB A B) | (refine onV_if ?_ ?_; (focus (first | omega | (refine ⟨?_, ?_⟩ <;> omega))); simp only [onV_s]; (first | refine hA _ _ _ ?_ ?_ | refine hA _ _ _ ?_ (by first | exact .inl rfl | exact .inr (by decide)) ?_); (focus (simp [hg, relO, hr, hb, anilCheck] <;> omega)); clear hA hB A B))
    | (refine RQ.nl ?_; refine hk _ _ ?_; clear hk k)
    | refine WP.sr fun k hk => ?_ | refine WP.r fun k hk => ?_
    | refine WP.sd _ rfl fun k hk => ?_ | refine WP.d _ rfl fun k hk => ?_
    | (refine WP.cc fun A B hA hB => ?_; simp [hg, relO, hr, hb, anilCheck, onB_t, onB_f]; first | (refine hA ?_; clear hA hB A B) | (refine hB ?_; clear hA hB A B) | (refine onB_if (fun h => hA ?_) (fun h => hB ?_) <;> clear hA hB A B))
    | refine WP.q ?_ | refine WP.b ?_)
  simp
theorem ft_AddH (hK : 0 < K) (hT : Tens gw) {l lt : List Nat} {rid tid atid ar : Nat} {tab : List V} {R : List (List V × Nat)} {rw : AV} (h : RelD s l lt rid tid atid ar tab R rw) (t : List V) (hl : t.length = ar) (hh : hasR R t = true) (hR : R.length < 16777216) :
    FT (env K gw) NoW 12 [.ptr rid 0, .sl (t.map V.cs)] s (.tup [.bool false, .int .i64 0]) s := by
  refine FT.pure (fn := Tryd.f12) (X5_ok hK hT) mixed Tryd.func12 (by kernel_rfl) (by rfl) rfl rfl (by simp) rfl fun μ w => ?_
  have hg := h.g
  have hr := (h.own rid h.hr).1
  have har := h.ok.arle
  have hhas := X5_has (s := s) (K := K) (gw := gw) hK hT h t (by omega) hR
  simp only [hl, hh, decide_true, Bool.and_true] at hhas
  repeat' (first
    | refine WP.t ?_ | refine WP.k ?_ | refine WP.e ?_ | refine Qn ?_ | refine Qr ?_ | refine Qe ?_ | refine Bn ?_ | refine Br ?_ | refine Be ?_ | refine Bx (by decide) ?_
    | (refine RS.nl ?_; refine hk _ _ ?_; clear hk k)
    | ((first | refine RS.st fun A B hA hB => ?_ | refine RQ.st fun A B hA hB => ?_); simp [hg, relO, hr, hl, hhas, anilCheck, onW_t, onW_f, onV_s]; first | ((first | refine hA _ _ _ ?_ ?_ | refine hA _ _ _ ?_ (by first | exact .inl rfl | exact .inr (by decide)) ?_); (focus (simp [hg, relO, hr, hl, hhas, anilCheck] <;> omega)); clear hA hB A B) | (refine hB ?_; clear hA hB A B) | (refine onV_if ?_ ?_; (focus (first | omega | (refine ⟨?_, ?_⟩ <;> omega))); simp only [onV_s]; (first | refine hA _ _ _ ?_ ?_ | refine hA _ _ _ ?_ (by first | exact .inl rfl | exact .inr (by decide)) ?_); (focus (simp [hg, relO, hr, hl, hhas, anilCheck] <;> omega)); clear hA hB A B))
    | (refine RQ.nl ?_; refine hk _ _ ?_; clear hk k)
    | refine WP.sr fun k hk => ?_ | refine WP.r fun k hk => ?_
    | refine WP.sd _ rfl fun k hk => ?_ | refine WP.d _ rfl fun k hk => ?_
    | (refine WP.cc fun A B hA hB => ?_; simp [hg, relO, hr, hl, hhas, anilCheck, onB_t, onB_f]; first | (refine hA ?_; clear hA hB A B) | (refine hB ?_; clear hA hB A B) | (refine onB_if (fun h => hA ?_) (fun h => hB ?_) <;> clear hA hB A B))
    | refine WP.q ?_ | refine WP.b ?_)
  simp
theorem ft_AddN (hK : 0 < K) (hT : Tens gw) {l lt : List Nat} {rid tid atid ar : Nat} {tab : List V} {R : List (List V × Nat)} {rw : AV} (h : RelD s l lt rid tid atid ar tab R rw) (t : List V) (hl : t.length = ar) (hh : hasR R t = false) (hR : R.length < 16777216) :
    ∃ r s', FT (env K gw) (fun i => i ∈ l) 12 [.ptr rid 0, .sl (t.map V.cs)] s r s' ∧ Eff l s s' ∧ Below s'.nx r ∧
      (r = .tup [.bool true, .int .i64 0] ∧ ∃ l', RelP s' l' rid ar (R ++ [(t.map bareV, 0)]) ∧ ∀ i ∈ l', i ∈ l ∨ (s.nx ≤ i ∧ i < s'.nx)) := by
  refine FT.eff (fn := Tryd.f12) gw (X5_ok hK hT) mixed Tryd.func12 (by kernel_rfl) (by rfl) rfl rfl (by simp) rfl fun μ w => ?_
  have hg := h.g
  have hr := (h.own rid h.hr).1
  have hr2 := (h.own atid h.hat).1
  have har := h.ok.arle
  have hhas := X5_has (s := s) (K := K) (gw := gw) hK hT h t (by omega) hR
  simp only [hl, hh, decide_true, Bool.and_false] at hhas
  repeat' (first
    | refine WP.t ?_ | refine WP.k ?_ | refine WP.e ?_ | refine Qn ?_ | refine Qr ?_ | refine Qe ?_ | refine Bn ?_ | refine Br ?_ | refine Be ?_ | refine Bx (by decide) ?_
    | (refine RS.nl ?_; refine hk _ _ ?_; clear hk k)
    | ((first | refine RS.st fun A B hA hB => ?_ | refine RQ.st fun A B hA hB => ?_); simp [hg, relO, hr, hl, hhas, anilCheck, onW_t, onW_f, onV_s]; first | ((first | refine hA _ _ _ ?_ ?_ | refine hA _ _ _ ?_ (by first | exact .inl rfl | exact .inr (by decide)) ?_); (focus (simp [hg, relO, hr, hl, hhas, anilCheck] <;> omega)); clear hA hB A B) | (refine hB ?_; clear hA hB A B) | (refine onV_if ?_ ?_; (focus (first | omega | (refine ⟨?_, ?_⟩ <;> omega))); simp only [onV_s]; (first | refine hA _ _ _ ?_ ?_ | refine hA _ _ _ ?_ (by first | exact .inl rfl | exact .inr (by decide)) ?_); (focus (simp [hg, relO, hr, hl, hhas, anilCheck] <;> omega)); clear hA hB A B))
    | (refine RQ.nl ?_; refine hk _ _ ?_; clear hk k)
    | refine WP.sr fun k hk => ?_ | refine WP.r fun k hk => ?_
    | refine WP.sd _ rfl fun k hk => ?_ | refine WP.d _ rfl fun k hk => ?_
    | (refine WP.cc fun A B hA hB => ?_; simp [hg, relO, hr, hl, hhas, anilCheck, onB_t, onB_f]; first | (refine hA ?_; clear hA hB A B) | (refine hB ?_; clear hA hB A B) | (refine onB_if (fun h => hA ?_) (fun h => hB ?_) <;> clear hA hB A B))
    | refine WP.q ?_ | refine WP.b ?_)
  refine WP_loop (fun n T s' => ∃ (i : Nat) (lt' : List Nat), n + i = t.length ∧ T.get 0 = .ptr rid 0 ∧ T.get 1 = .sl (t.map V.cs) ∧ T.get 25 = .sl (t.map V.cs) ∧ T.get 26 = .int .i64 t.length ∧ T.get 27 = .int .i64 i ∧
    Eff lt s s' ∧ Tab s' lt' tid (putAll tab (t.take i)) ∧ Own s' lt' ∧ (∀ j ∈ lt', j ∈ lt ∨ s.nx ≤ j) ∧
    ((i = 0 ∧ T.get 6 = .nsl) ∨ (0 < i ∧ ∃ rd, s.nx ≤ rd ∧ rd < s'.nx ∧ rd ∉ lt' ∧ T.get 6 = .ls rd 0 i ∧ s'.get rd = some (.row 1 (true, 3) (nums (idxs (putAll tab (t.take i)) (t.take i))))))) t.length
    ⟨0, lt, by simp, by simp, by simp, by simp, by simp [hl], by simp, Eff.refl (h.own.sub h.sub), by simpa [putAll] using h.ht, h.own.sub h.sub, fun j hj => .inl hj, .inl ⟨rfl, by simp⟩⟩ ?_
  rintro n T s' ⟨i, lt', hni, g0, g1, g25, g26, g27, hE, hT', hO', hlt', hB⟩
  have hnx := hE.nx
  have k1 : s'.get rid = some (relO tid ar rw atid) := by rw [hE.same rid hr h.nr]; exact hg
  have k2 : s'.get atid = some (.map (atL tab 0 R)) := by rw [hE.same atid hr2 h.na]; exact h.a
  have nrid : rid ∉ lt' := fun hm => (hlt' rid hm).elim h.nr fun h => by omega
  have nat : atid ∉ lt' := fun hm => (hlt' atid hm).elim h.na fun h => by omega
  have hplen := putAll_len (t.take i) tab
  have htl : (t.take i).length ≤ 6 := by rw [List.length_take]; omega
  have hlen := h.ok.len
  by_cases hi : i < t.length
  · have hw : IntKind.i64.wrap ((i : Int) + 1) = (i : Int) + 1 := wrap64 (by omega) (by omega)
    have ha : t[i]? = some t[i] := List.getElem?_eq_getElem hi
    have hlt : ((i : Int) < (t.length : Int)) := by omega
    have htk : t.take (i + 1) = t.take i ++ [t[i]] := List.take_succ_eq_append_getElem hi
    have hpt := putAll_take (tab := tab) hi
    have hv3 : t[i].cs = [.bool t[i].b, .str t[i].s, .int .i64 t[i].n] := rfl
    generalize hv : t[i] = v at *
    have m1 : ¬ rid = s'.nx := by omega
    obtain ⟨mid, c, p1, p2, p3, p4, p5, p6⟩ := hT'.var
    generalize hsA : (s'.push (.var 25 [.bool false, .str [], .int .i64 0])).put s'.nx (.var 25 v.cs) = sA
    have hAn : sA.nx = s'.nx + 1 := by rw [← hsA]; simp
    have hAg : ∀ j, j < s'.nx → sA.get j = s'.get j := fun j hj => by
      have : ¬ j = s'.nx := by omega
      rw [← hsA]; simp [St.get_put, St.get_push, this]
    have hAv : sA.get s'.nx = some (.var 25 v.cs) := by rw [← hsA]; simp [St.get_put]
    have hEA : Eff lt s sA := by
      rw [← hsA]
      exact Eff.put (Eff.push hE (OBelow_vcs _ _ ⟨false, [], 0⟩)) (.inr (by omega)) (OBelow_vcs _ _ _)
    have hTA : Tab sA lt' tid (putAll tab (t.take i)) := hT'.keep (by omega) fun j hj => hAg j (hO' j hj).1
    have hOA : Own sA lt' := hO'.keep (by omega) fun j hj => hAg j (hO' j hj).1
    obtain ⟨s2, ids, hput, hids, hE2, lt2, hT2, hO2, hlt2⟩ := X5_put (K := K) (gw := gw) hK hT v hTA hOA (by omega)
    have hids2 : ∀ j ∈ ids, j ∈ l ∨ s.nx ≤ j := fun j hj => (hlt' j (hids j hj)).imp (h.sub j) fun h => h
    have hn2 := hE2.nx
    have k3 : sA.get rid = some (relO tid ar rw atid) := by rw [hAg rid (by omega)]; exact k1
    have hrA : rid < sA.nx := by omega
    have hle2 : sA.nx ≤ s2.nx := hn2
    have hE12 : Eff lt s s2 := hEA.trans hE2 hlt'
    have hlt3 : ∀ j ∈ lt2, j ∈ lt ∨ s.nx ≤ j := fun j hj => (hlt2 j hj).elim (hlt' j) fun h => .inr (by omega)
    have hallin : allIn (putAll tab (t.take i)) (t.take i) = true := putAll_in _ _
    have hix : nums (idxs (putAll tab (t.take (i + 1))) (t.take (i + 1))) = nums (idxs (putAll tab (t.take i)) (t.take i)) ++ [[.int .i64 (idx (putV (putAll tab (t.take i)) v) (bareV v) : Nat)]] := by
      rw [hpt, htk]
      have := (ext_putV (putAll tab (t.take i)) v).idxs hallin
      simp only [idxs, nums, List.map_append, List.map_cons, List.map_nil] at this ⊢
      rw [this]
    rw [← hpt] at hT2
    simp only [V.cs] at hput hsA hAv
    rcases hB with ⟨rfl, g6⟩ | ⟨hi0, rd, hrd, hrd2, hrd3, g6, hr6⟩
    · skip
      repeat' (first
        | (refine WP.wb true 8 (by decide) (by decide) (Keep sA []) fun k hk => ?_)
        | refine WP.t ?_ | refine WP.k ?_ | refine WP.e ?_ | refine Qn ?_ | refine Qr ?_ | refine Qe ?_ | refine Bn ?_ | refine Br ?_ | refine Be ?_ | refine Bx (by decide) ?_
        | (refine RS.nl ?_; refine hk _ _ ?_; clear hk k)
        | ((first | refine RS.st fun A B hA hB => ?_ | refine RQ.st fun A B hA hB => ?_); simp [g0, g1, g6, g25, g26, g27, hlt, hi, ha, hw, hv, V.cs, hsA, hAv, k3, relO, hput, hids2, hn2, anilCheck, hrA, onW_t, onW_f, onV_s]; first | ((first | refine hA _ _ _ ?_ ?_ | refine hA _ _ _ ?_ (by first | exact .inl rfl | exact .inr (by decide)) ?_); (focus (simp [g0, g1, g6, g25, g26, g27, hlt, hi, ha, hw, hv, V.cs, hsA, hAv, k3, relO, hput, hids2, hn2, anilCheck, hrA] <;> omega)); clear hA hB A B) | (refine hB ?_; clear hA hB A B) | (refine onV_if ?_ ?_; (focus (first | omega | (refine ⟨?_, ?_⟩ <;> omega))); simp only [onV_s]; (first | refine hA _ _ _ ?_ ?_ | refine hA _ _ _ ?_ (by first | exact .inl rfl | exact .inr (by decide)) ?_); (focus (simp [g0, g1, g6, g25, g26, g27, hlt, hi, ha, hw, hv, V.cs, hsA, hAv, k3, relO, hput, hids2, hn2, anilCheck, hrA] <;> omega)); clear hA hB A B))
        | (refine RQ.nl ?_; refine hk _ _ ?_; clear hk k)
        | (refine RW.nl ?_ ?_; (focus (first | exact .inl (by decide) | (refine .inr ?_; (simp [g0, g1, g6, g25, g26, g27, hlt, hi, ha, hw, hv, V.cs, hsA, hAv, k3, relO, hput, hids2, hn2, anilCheck, hrA] <;> omega)))); refine hk _ _ ?_; clear hk k)
        | (refine RW.st ?_ fun A B hA hB => ?_; (focus (first | exact .inl (by decide) | (refine .inr ?_; (simp [g0, g1, g6, g25, g26, g27, hlt, hi, ha, hw, hv, V.cs, hsA, hAv, k3, relO, hput, hids2, hn2, anilCheck, hrA] <;> omega)))); simp [g0, g1, g6, g25, g26, g27, hlt, hi, ha, hw, hv, V.cs, hsA, hAv, k3, relO, hput, hids2, hn2, anilCheck, hrA, onW_t, onW_f, onV_s]; first | (refine hA _ _ _ ?_ ?_ ?_ ?_; (focus (simp [g0, g1, g6, g25, g26, g27, hlt, hi, ha, hw, hv, V.cs, hsA, hAv, k3, relO, hput, hids2, hn2, anilCheck, hrA] <;> omega)); (focus (first | exact .inl (by decide) | exact .inr (.inl rfl) | exact .inr (.inr rfl))); (focus (first | exact .inl (by decide) | exact .inr (.inl (by decide)) | (refine .inr (.inr fun s2 hs2 => ?_); have hs2n := hs2.nx; simp only [Keep_cons, Keep_nil] at hs2; simp [g0, g1, g6, g25, g26, g27, hlt, hi, ha, hw, hv, V.cs, hsA, hAv, k3, relO, hput, hids2, hn2, anilCheck, hrA, hs2, hs2n]; done))); clear hA hB A B) | (refine hB ?_; clear hA hB A B))
        | refine WP.sr fun k hk => ?_ | refine WP.r fun k hk => ?_
        | (refine WP.swK [] ?_ fun k hk => ?_; (focus (decide))) | (refine WP.wK [] ?_ fun k hk => ?_; (focus (decide))) | refine WP.sd _ rfl fun k hk => ?_ | refine WP.d _ rfl fun k hk => ?_
        | (refine WP.cc fun A B hA hB => ?_; simp [g0, g1, g6, g25, g26, g27, hlt, hi, ha, hw, hv, V.cs, hsA, hAv, k3, relO, hput, hids2, hn2, anilCheck, hrA, onB_t, onB_f]; first | (refine hA ?_; clear hA hB A B) | (refine hB ?_; clear hA hB A B) | (refine onB_if (fun h => hA ?_) (fun h => hB ?_) <;> clear hA hB A B))
        | refine WP.q ?_ | refine WP.b ?_)
      refine ⟨n - 1, by omega, 0 + 1, lt2, by omega, by simp [g0], by simp [g1], by simp [g25], by simp [g26], by simp [wrap64 (x := 1) (by omega) (by omega)], ?_, ?_, ?_, hlt3, .inr ⟨by omega, s2.nx, by omega, by simp, fun hm => ?_, by simp, ?_⟩⟩
      · exact Eff.push hE12 (by simp)
      · exact hT2.keep (by simp) fun j hj => by
          have := (hO2 j hj).1
          simp [St.get_push, show ¬ j = s2.nx by omega]
      · exact hO2.keep (by simp) fun j hj => by
          have := (hO2 j hj).1
          simp [St.get_push, show ¬ j = s2.nx by omega]
      · have := (hO2 _ hm).1; omega
      · rw [hix]; simp [nums, idxs]
    · have hr7 : s2.get rd = some (.row 1 (true, 3) (nums (idxs (putAll tab (t.take i)) (t.take i)))) := by
        rw [hE2.same rd (by omega) hrd3, hAg rd hrd2]; exact hr6
      have hmin : min i t.length = i := by omega
      have hmin2 : min i ar = i := by omega
      have hby : (i + 1) * 8 ≤ 140737488355328 := by omega
      have hln : (nums (idxs (putAll tab (t.take i)) (t.take i))).length = i := by simp [nums, idxs, hmin]
      have htl2 : List.take i (nums (idxs (putAll tab (t.take i)) (t.take i))) = nums (idxs (putAll tab (t.take i)) (t.take i)) := List.take_of_length_le (by omega)
      have hrd4 : rd < s2.nx := by omega
      have hrd5 : rd ∉ lt2 := fun hm => (hlt2 rd hm).elim hrd3 fun h => by omega
      repeat' (first
        | (refine WP.wb true 8 (by decide) (by decide) (Keep sA []) fun k hk => ?_)
        | refine WP.t ?_ | refine WP.k ?_ | refine WP.e ?_ | refine Qn ?_ | refine Qr ?_ | refine Qe ?_ | refine Bn ?_ | refine Br ?_ | refine Be ?_ | refine Bx (by decide) ?_
        | (refine RS.nl ?_; refine hk _ _ ?_; clear hk k)
        | ((first | refine RS.st fun A B hA hB => ?_ | refine RQ.st fun A B hA hB => ?_); simp [g0, g1, g6, g25, g26, g27, hlt, hi, ha, hw, hv, V.cs, hsA, hAv, k3, relO, hput, hids2, hn2, anilCheck, hrA, hr7, hmin, hmin2, hby, hln, htl2, hrd, hrd4, onW_t, onW_f, onV_s]; first | ((first | refine hA _ _ _ ?_ ?_ | refine hA _ _ _ ?_ (by first | exact .inl rfl | exact .inr (by decide)) ?_); (focus (simp [g0, g1, g6, g25, g26, g27, hlt, hi, ha, hw, hv, V.cs, hsA, hAv, k3, relO, hput, hids2, hn2, anilCheck, hrA, hr7, hmin, hmin2, hby, hln, htl2, hrd, hrd4] <;> omega)); clear hA hB A B) | (refine hB ?_; clear hA hB A B) | (refine onV_if ?_ ?_; (focus (first | omega | (refine ⟨?_, ?_⟩ <;> omega))); simp only [onV_s]; (first | refine hA _ _ _ ?_ ?_ | refine hA _ _ _ ?_ (by first | exact .inl rfl | exact .inr (by decide)) ?_); (focus (simp [g0, g1, g6, g25, g26, g27, hlt, hi, ha, hw, hv, V.cs, hsA, hAv, k3, relO, hput, hids2, hn2, anilCheck, hrA, hr7, hmin, hmin2, hby, hln, htl2, hrd, hrd4] <;> omega)); clear hA hB A B))
        | (refine RQ.nl ?_; refine hk _ _ ?_; clear hk k)
        | (refine RW.nl ?_ ?_; (focus (first | exact .inl (by decide) | (refine .inr ?_; (simp [g0, g1, g6, g25, g26, g27, hlt, hi, ha, hw, hv, V.cs, hsA, hAv, k3, relO, hput, hids2, hn2, anilCheck, hrA, hr7, hmin, hmin2, hby, hln, htl2, hrd, hrd4] <;> omega)))); refine hk _ _ ?_; clear hk k)
        | (refine RW.st ?_ fun A B hA hB => ?_; (focus (first | exact .inl (by decide) | (refine .inr ?_; (simp [g0, g1, g6, g25, g26, g27, hlt, hi, ha, hw, hv, V.cs, hsA, hAv, k3, relO, hput, hids2, hn2, anilCheck, hrA, hr7, hmin, hmin2, hby, hln, htl2, hrd, hrd4] <;> omega)))); simp [g0, g1, g6, g25, g26, g27, hlt, hi, ha, hw, hv, V.cs, hsA, hAv, k3, relO, hput, hids2, hn2, anilCheck, hrA, hr7, hmin, hmin2, hby, hln, htl2, hrd, hrd4, onW_t, onW_f, onV_s]; first | (refine hA _ _ _ ?_ ?_ ?_ ?_; (focus (simp [g0, g1, g6, g25, g26, g27, hlt, hi, ha, hw, hv, V.cs, hsA, hAv, k3, relO, hput, hids2, hn2, anilCheck, hrA, hr7, hmin, hmin2, hby, hln, htl2, hrd, hrd4] <;> omega)); (focus (first | exact .inl (by decide) | exact .inr (.inl rfl) | exact .inr (.inr rfl))); (focus (first | exact .inl (by decide) | exact .inr (.inl (by decide)) | (refine .inr (.inr fun s2 hs2 => ?_); have hs2n := hs2.nx; simp only [Keep_cons, Keep_nil] at hs2; simp [g0, g1, g6, g25, g26, g27, hlt, hi, ha, hw, hv, V.cs, hsA, hAv, k3, relO, hput, hids2, hn2, anilCheck, hrA, hr7, hmin, hmin2, hby, hln, htl2, hrd, hrd4, hs2, hs2n]; done))); clear hA hB A B) | (refine hB ?_; clear hA hB A B))
        | refine WP.sr fun k hk => ?_ | refine WP.r fun k hk => ?_
        | (refine WP.swK [] ?_ fun k hk => ?_; (focus (decide))) | (refine WP.wK [] ?_ fun k hk => ?_; (focus (decide))) | refine WP.sd _ rfl fun k hk => ?_ | refine WP.d _ rfl fun k hk => ?_
        | (refine WP.cc fun A B hA hB => ?_; simp [g0, g1, g6, g25, g26, g27, hlt, hi, ha, hw, hv, V.cs, hsA, hAv, k3, relO, hput, hids2, hn2, anilCheck, hrA, hr7, hmin, hmin2, hby, hln, htl2, hrd, hrd4, onB_t, onB_f]; first | (refine hA ?_; clear hA hB A B) | (refine hB ?_; clear hA hB A B) | (refine onB_if (fun h => hA ?_) (fun h => hB ?_) <;> clear hA hB A B))
        | refine WP.q ?_ | refine WP.b ?_)
      have e2 : ∀ s2' : St, s2'.nx = s2.nx → ∀ o, (s2'.push o).get s2.nx = some o := fun s2' h o => by rw [← h]; exact St.get_push_same _ _
      refine ⟨n - 1, by omega, i + 1, lt2, by omega, by simp [g0], by simp [g1], by simp [g25], by simp [g26], by simp, ?_, ?_, ?_, hlt3, .inr ⟨by omega, s2.nx, by omega, by simp, fun hm => ?_, by simp, ?_⟩⟩
      · refine Eff.push (Eff.drop hE12 (.inr hrd)) ?_
        have := OBelow_row (n := s2.nx + 1) (sz := 1) (wr := (true, 3)) (below_nums _ (idxs (putAll tab (t.take (i + 1))) (t.take (i + 1))))
        rw [hix] at this
        exact this
      · exact hT2.keep (by simp) fun j hj => by
          have := (hO2 j hj).1
          have e : ¬ j = rd := fun e => hrd5 (e ▸ hj)
          simp [St.get_push, St.get_drop, e, show ¬ j = s2.nx by omega]
      · exact hO2.keep (by simp) fun j hj => by
          have := (hO2 j hj).1
          have e : ¬ j = rd := fun e => hrd5 (e ▸ hj)
          simp [St.get_push, St.get_drop, e, show ¬ j = s2.nx by omega]
      · have := (hO2 _ hm).1; omega
      · rw [hix, e2 _ (by simp)]
  · have hlt : ¬ ((i : Int) < (t.length : Int)) := by omega
    have he : i = t.length := by omega
    have htt : t.take i = t := by rw [he, List.take_length]
    rw [htt] at hT' hplen hB htl
    have hx := putAll_ext t tab
    have hall := putAll_in t tab
    generalize htab : putAll tab t = tab' at *
    have hrin : ∀ r ∈ R, allIn tab r.1 = true := fun r hr => (h.ok.row r hr).2.1
    have hnm : ∀ s2 : St, X5 K gw 32 [.sl (nums (idxs tab' t))] s2 = some (.str (nameT (idxs tab' t)), s2, []) := fun s2 =>
      X5_name hK hT _ (by simp only [idxs, List.length_map]; omega) (idxs_lt hall (by omega))
    have hof : ∀ s2 : St, X5 K gw 33 [.sl (t.map V.cs)] s2 = some (.sl ((t.map bareV).map V.cs), s2, []) := fun s2 => X5_of t (by omega)
    have hat2 : atF (nameT (idxs tab' t)) tab' R = none := by
      have hiff := atF_some (tab := tab') hall (R := R) fun r hr => ⟨hx.allIn (hrin r hr), (h.ok.row r hr).2.2.1⟩
      cases hf : atF (nameT (idxs tab' t)) tab' R with
      | none => rfl
      | some i =>
        rw [hf] at hiff
        exact absurd (hiff.1 rfl) (of_decide_eq_false hh)
    have hatx : atL tab' 0 R = atL tab 0 R := atL_ext hx hrin
    have hib : idxs tab' (t.map bareV) = idxs tab' t := idxs_bare (by rw [List.map_map]; exact List.map_congr_left fun v _ => bareV_bare v)
    have hup : ∀ s2 : St, s2.get atid = some (.map (atL tab 0 R)) → amapup (env K gw) s2 67 (.map atid) (.str (nameT (idxs tab' t))) (.int .i64 (R.length : Int)) = some (s2.put atid (.map (atL tab' 0 (R ++ [(t.map bareV, 0)])))) := fun s2 hs2 => by
      rw [atL_snoc, hatx, hib, Nat.zero_add]
      rw [← hatx] at hs2 ⊢
      simp only [amapup, miS, akok_str, if_true, hs2, afind_at, hat2, Option.map_none]
    have hpre : ∃ T1 s1, Gh s.nx T s' T1 s1 ∧ T1.get 6 = .sl (nums (idxs tab' t)) ∧ T1.get 0 = .ptr rid 0 ∧ T1.get 1 = .sl (t.map V.cs) ∧ T1.get 26 = .int .i64 t.length ∧ T1.get 27 = .int .i64 i ∧ Eff lt s s1 ∧ Tab s1 lt' tid tab' ∧ Own s1 lt' := by
      rcases hB with ⟨h0, g6⟩ | ⟨hi0, rd, hrd, hrd2, hrd3, g6, hr6⟩
      · have : t = [] := List.eq_nil_of_length_eq_zero (by omega)
        subst this
        exact ⟨T.set 6 (.sl []), s', .nl 6 g6 (.refl _ _), by simp [Slots.get_set', nums, idxs], by simp [Slots.get_set', g0], by simp [Slots.get_set', g1], by simp [Slots.get_set', g26], by simp [Slots.get_set', g27], hE, hT', hO'⟩
      · have hln : i = (nums (idxs tab' t)).length := by simp [nums, idxs, he]
        have hne : ∀ j ∈ lt', (s'.drop rd).get j = s'.get j := fun j hj => by
          have : ¬ j = rd := fun e => hrd3 (e ▸ hj)
          simp [St.get_drop, this]
        refine ⟨T.set 6 (.sl (nums (idxs tab' t))), s'.drop rd, .fz 6 rd 1 _ _ (by rw [g6, hln]) hr6 hrd (.refl _ _), by simp [Slots.get_set'], by simp [Slots.get_set', g0], by simp [Slots.get_set', g1], by simp [Slots.get_set', g26], by simp [Slots.get_set', g27], hE.drop (.inr hrd), hT'.keep (by simp) hne, hO'.keep (by simp) hne⟩
    obtain ⟨T1, s1, hgh, f6, f0, f1, f26, f27, hE1, hT1, hO1⟩ := hpre
    refine WP.gh hgh ?_
    have hn1 := hE1.nx
    have k4 : s1.get rid = some (relO tid ar rw atid) := by rw [hE1.same rid hr h.nr]; exact hg
    have k5 : s1.get atid = some (.map (atL tab 0 R)) := by rw [hE1.same atid hr2 h.na]; exact h.a
    have hup1 := hup s1 k5
    have hra : ¬ rid = atid := h.ra
    have hrn : ¬ rid = s1.nx := by omega
    have hr1n : rid < s1.nx := by omega
    have har1 : atid < s1.nx := by omega
    have hWr := h.hr
    have hWa := h.hat
    have hrce : rowC tab' (t.map bareV, 0) = [.sl ((t.map bareV).map V.cs), .sl (nums (idxs tab' t)), .int .i64 0] := by
      simp only [rowC, hib]; rfl
    have hb1 : ∀ (a : V) (x : AV), (x ∈ (bareV a).cs) = (x = .bool (bareV a).b ∨ x = .str (bareV a).s ∨ x = .int .i64 (bareV a).n) := fun a x => by simp [V.cs]
    have hb2 : ∀ e : List AV, (e ∈ nums (idxs tab' t)) = ∃ m, m ∈ idxs tab' t ∧ [.int .i64 ((m : Nat) : Int)] = e := fun e => by simp [nums]
    rcases h.rows with ⟨hR0, hrw⟩ | ⟨hne, rd, d1, d2, d3, d4, hrw, hrd⟩
    · have hfin := fun s3 hs3 => add_end (s3 := s3) h hl hh hx hall (by omega) hE1 hT1 hO1 hlt' (.inl ⟨hR0, hs3⟩)
      rw [hrw] at k4
      rw [hR0] at hup1 hfin
      simp only [List.length_nil, Int.ofNat_zero, List.nil_append, List.map_nil, hrce] at hup1 hfin
      repeat' (first
        | refine WP.t ?_ | refine WP.k ?_ | refine WP.e ?_ | refine Qn ?_ | refine Qr ?_ | refine Qe ?_ | refine Bn ?_ | refine Br ?_ | refine Be ?_ | refine Bx (by decide) ?_
        | (refine RS.nl ?_; refine hk _ _ ?_; clear hk k)
        | ((first | refine RS.st fun A B hA hB => ?_ | refine RQ.st fun A B hA hB => ?_); simp [f0, f1, f6, f26, f27, hlt, k4, k5, relO, anilCheck, hnm, hof, hup1, hra, hrn, hr1n, har1, hWr, hWa, hb1, hb2, onW_t, onW_f, onV_s]; first | ((first | refine hA _ _ _ ?_ ?_ | refine hA _ _ _ ?_ (by first | exact .inl rfl | exact .inr (by decide)) ?_); (focus (simp [f0, f1, f6, f26, f27, hlt, k4, k5, relO, anilCheck, hnm, hof, hup1, hra, hrn, hr1n, har1, hWr, hWa, hb1, hb2] <;> omega)); clear hA hB A B) | (refine hB ?_; clear hA hB A B) | (refine onV_if ?_ ?_; (focus (first | omega | (refine ⟨?_, ?_⟩ <;> omega))); simp only [onV_s]; (first | refine hA _ _ _ ?_ ?_ | refine hA _ _ _ ?_ (by first | exact .inl rfl | exact .inr (by decide)) ?_); (focus (simp [f0, f1, f6, f26, f27, hlt, k4, k5, relO, anilCheck, hnm, hof, hup1, hra, hrn, hr1n, har1, hWr, hWa, hb1, hb2] <;> omega)); clear hA hB A B))
        | (refine RQ.nl ?_; refine hk _ _ ?_; clear hk k)
        | (refine RW.nl ?_ ?_; (focus (first | exact .inl (by decide) | (refine .inr ?_; (simp [f0, f1, f6, f26, f27, hlt, k4, k5, relO, anilCheck, hnm, hof, hup1, hra, hrn, hr1n, har1, hWr, hWa, hb1, hb2] <;> omega)))); refine hk _ _ ?_; clear hk k)
        | (refine RW.st ?_ fun A B hA hB => ?_; (focus (first | exact .inl (by decide) | (refine .inr ?_; (simp [f0, f1, f6, f26, f27, hlt, k4, k5, relO, anilCheck, hnm, hof, hup1, hra, hrn, hr1n, har1, hWr, hWa, hb1, hb2] <;> omega)))); simp [f0, f1, f6, f26, f27, hlt, k4, k5, relO, anilCheck, hnm, hof, hup1, hra, hrn, hr1n, har1, hWr, hWa, hb1, hb2, onW_t, onW_f, onV_s]; first | (refine hA _ _ _ ?_ ?_ ?_ ?_; (focus (simp [f0, f1, f6, f26, f27, hlt, k4, k5, relO, anilCheck, hnm, hof, hup1, hra, hrn, hr1n, har1, hWr, hWa, hb1, hb2] <;> omega)); (focus (first | exact .inl (by decide) | exact .inr (.inl rfl) | exact .inr (.inr rfl))); (focus (first | exact .inl (by decide) | exact .inr (.inl (by decide)) | (refine .inr (.inr fun s2 hs2 => ?_); have hs2n := hs2.nx; simp only [Keep_cons, Keep_nil] at hs2; simp [f0, f1, f6, f26, f27, hlt, k4, k5, relO, anilCheck, hnm, hof, hup1, hra, hrn, hr1n, har1, hWr, hWa, hb1, hb2, hs2, hs2n]; done))); clear hA hB A B) | (refine hB ?_; clear hA hB A B))
        | refine WP.sr fun k hk => ?_ | refine WP.r fun k hk => ?_
        | (refine WP.swK [] ?_ fun k hk => ?_; (focus (decide))) | (refine WP.wK [] ?_ fun k hk => ?_; (focus (decide))) | refine WP.sd _ rfl fun k hk => ?_ | refine WP.d _ rfl fun k hk => ?_
        | (refine WP.cc fun A B hA hB => ?_; simp [f0, f1, f6, f26, f27, hlt, k4, k5, relO, anilCheck, hnm, hof, hup1, hra, hrn, hr1n, har1, hWr, hWa, hb1, hb2, onB_t, onB_f]; first | (refine hA ?_; clear hA hB A B) | (refine hB ?_; clear hA hB A B) | (refine onB_if (fun h => hA ?_) (fun h => hB ?_) <;> clear hA hB A B))
        | refine WP.q ?_ | refine WP.b ?_)
      simp only [List.map_map] at hfin
      obtain ⟨hEl, hPost⟩ := hfin _ rfl
      rw [hR0]
      exact ⟨.inr rfl, ⟨.tup [.bool true, .int .i64 0], by simp, by simp, rfl, hPost⟩, hEl⟩
    · have hfin := fun s3 hs3 => add_end (s3 := s3) h hl hh hx hall (by omega) hE1 hT1 hO1 hlt' (.inr ⟨hne, rd, hrw, hs3⟩)
      rw [hrw] at k4
      have hrl := h.own rd d1
      have k6 : s1.get rd = some (.row 3 (true, 75) (R.map (rowC tab))) := by rw [hE1.same rd hrl.1 d2]; exact hrd
      have e1 : ¬ rd = s1.nx := by omega
      have e2 : ¬ rd = atid := d4
      have e3 : ¬ rid = rd := fun e => d3 e.symm
      have e4 : ¬ atid = rd := fun e => d4 e.symm
      have e5 : rd < s1.nx := by omega
      have hmin : min R.length R.length = R.length := by omega
      have hby : (R.length + 1) * 56 ≤ 140737488355328 := by omega
      have htk : List.take R.length (R.map (rowC tab)) = R.map (rowC tab) := List.take_of_length_le (by simp)
      have htk2 : List.take R.length R = R := List.take_length
      have hRe : R.map (rowC tab') = R.map (rowC tab) := rowC_ext hx hrin
      rw [hRe, hrce] at hfin
      repeat' (first
        | refine WP.t ?_ | refine WP.k ?_ | refine WP.e ?_ | refine Qn ?_ | refine Qr ?_ | refine Qe ?_ | refine Bn ?_ | refine Br ?_ | refine Be ?_ | refine Bx (by decide) ?_
        | (refine RS.nl ?_; refine hk _ _ ?_; clear hk k)
        | ((first | refine RS.st fun A B hA hB => ?_ | refine RQ.st fun A B hA hB => ?_); simp [f0, f1, f6, f26, f27, hlt, k4, k5, k6, relO, anilCheck, hnm, hof, hup1, hra, hrn, hr1n, har1, hWr, hWa, hb1, hb2, d1, e1, e2, e3, e4, e5, hmin, hby, htk, htk2, St.get_drop, onW_t, onW_f, onV_s]; first | ((first | refine hA _ _ _ ?_ ?_ | refine hA _ _ _ ?_ (by first | exact .inl rfl | exact .inr (by decide)) ?_); (focus (simp [f0, f1, f6, f26, f27, hlt, k4, k5, k6, relO, anilCheck, hnm, hof, hup1, hra, hrn, hr1n, har1, hWr, hWa, hb1, hb2, d1, e1, e2, e3, e4, e5, hmin, hby, htk, htk2, St.get_drop] <;> omega)); clear hA hB A B) | (refine hB ?_; clear hA hB A B) | (refine onV_if ?_ ?_; (focus (first | omega | (refine ⟨?_, ?_⟩ <;> omega))); simp only [onV_s]; (first | refine hA _ _ _ ?_ ?_ | refine hA _ _ _ ?_ (by first | exact .inl rfl | exact .inr (by decide)) ?_); (focus (simp [f0, f1, f6, f26, f27, hlt, k4, k5, k6, relO, anilCheck, hnm, hof, hup1, hra, hrn, hr1n, har1, hWr, hWa, hb1, hb2, d1, e1, e2, e3, e4, e5, hmin, hby, htk, htk2, St.get_drop] <;> omega)); clear hA hB A B))
        | (refine RQ.nl ?_; refine hk _ _ ?_; clear hk k)
        | (refine RW.nl ?_ ?_; (focus (first | exact .inl (by decide) | (refine .inr ?_; (simp [f0, f1, f6, f26, f27, hlt, k4, k5, k6, relO, anilCheck, hnm, hof, hup1, hra, hrn, hr1n, har1, hWr, hWa, hb1, hb2, d1, e1, e2, e3, e4, e5, hmin, hby, htk, htk2, St.get_drop] <;> omega)))); refine hk _ _ ?_; clear hk k)
        | (refine RW.st ?_ fun A B hA hB => ?_; (focus (first | exact .inl (by decide) | (refine .inr ?_; (simp [f0, f1, f6, f26, f27, hlt, k4, k5, k6, relO, anilCheck, hnm, hof, hup1, hra, hrn, hr1n, har1, hWr, hWa, hb1, hb2, d1, e1, e2, e3, e4, e5, hmin, hby, htk, htk2, St.get_drop] <;> omega)))); simp [f0, f1, f6, f26, f27, hlt, k4, k5, k6, relO, anilCheck, hnm, hof, hup1, hra, hrn, hr1n, har1, hWr, hWa, hb1, hb2, d1, e1, e2, e3, e4, e5, hmin, hby, htk, htk2, St.get_drop, onW_t, onW_f, onV_s]; first | (refine hA _ _ _ ?_ ?_ ?_ ?_; (focus (simp [f0, f1, f6, f26, f27, hlt, k4, k5, k6, relO, anilCheck, hnm, hof, hup1, hra, hrn, hr1n, har1, hWr, hWa, hb1, hb2, d1, e1, e2, e3, e4, e5, hmin, hby, htk, htk2, St.get_drop] <;> omega)); (focus (first | exact .inl (by decide) | exact .inr (.inl rfl) | exact .inr (.inr rfl))); (focus (first | exact .inl (by decide) | exact .inr (.inl (by decide)) | (refine .inr (.inr fun s2 hs2 => ?_); have hs2n := hs2.nx; simp only [Keep_cons, Keep_nil] at hs2; simp [f0, f1, f6, f26, f27, hlt, k4, k5, k6, relO, anilCheck, hnm, hof, hup1, hra, hrn, hr1n, har1, hWr, hWa, hb1, hb2, d1, e1, e2, e3, e4, e5, hmin, hby, htk, htk2, St.get_drop, hs2, hs2n]; done))); clear hA hB A B) | (refine hB ?_; clear hA hB A B))
        | refine WP.sr fun k hk => ?_ | refine WP.r fun k hk => ?_
        | (refine WP.swK [] ?_ fun k hk => ?_; (focus (decide))) | (refine WP.wK [] ?_ fun k hk => ?_; (focus (decide))) | refine WP.sd _ rfl fun k hk => ?_ | refine WP.d _ rfl fun k hk => ?_
        | (refine WP.cc fun A B hA hB => ?_; simp [f0, f1, f6, f26, f27, hlt, k4, k5, k6, relO, anilCheck, hnm, hof, hup1, hra, hrn, hr1n, har1, hWr, hWa, hb1, hb2, d1, e1, e2, e3, e4, e5, hmin, hby, htk, htk2, St.get_drop, onB_t, onB_f]; first | (refine hA ?_; clear hA hB A B) | (refine hB ?_; clear hA hB A B) | (refine onB_if (fun h => hA ?_) (fun h => hB ?_) <;> clear hA hB A B))
        | refine WP.q ?_ | refine WP.b ?_)
      simp only [List.map_map] at hfin
      obtain ⟨hEl, hPost⟩ := hfin _ rfl
      exact ⟨.inr rfl, ⟨.tup [.bool true, .int .i64 0], by simp, by simp, rfl, hPost⟩, hEl⟩
end
end Go.Am
namespace Go.Am
open Go.Proofs
def tr (r : List V × Nat) : List V × Nat := (r.1, min (r.2 + 1) 2)
def turnTo (i : Nat) (R : List (List V × Nat)) : List (List V × Nat) := (R.take i).map tr ++ R.drop i
def isDelta (r : List V × Nat) : Bool := decide (r.2 = 1)
theorem turnTo_get {R : List (List V × Nat)} {i : Nat} (h : i < R.length) : (turnTo i R)[i]? = some R[i] := by
  unfold turnTo
  rw [List.getElem?_append_right (by simp; omega)]
  have : i - ((R.take i).map tr).length = 0 := by simp; omega
  rw [this, List.getElem?_drop]
  simp [h]
theorem turnTo_succ {R : List (List V × Nat)} {i : Nat} (h : i < R.length) : turnTo (i + 1) R = (turnTo i R).set i (tr R[i]) := by
  unfold turnTo
  rw [List.take_succ_eq_append_getElem h, List.map_append, List.drop_eq_getElem_cons h]
  have hl : ((R.take i).map tr).length = i := by simp; omega
  rw [List.set_append_right _ _ (by omega), hl, Nat.sub_self, List.set_cons_zero, List.append_assoc]
  rfl
theorem turnTo_len (R : List (List V × Nat)) (i : Nat) : (turnTo i R).length = R.length := by
  simp [turnTo]; omega
section
variable {K : Nat} {gw : World} {s : St}
attribute [local simp] awanted xop zOf zrow aop ev T0 Slots.put Slots.set Slots.get awr WOk AV.may ofConst abinop aint isConst St.get_push St.get_put St.live AV.fit AV.cells AV.one fieldOf afieldAddr aload ofCells astore splice May eqres env_ti FinP FinZ FinW ares aresL ares1 Fns.addP Fns.add Fns.a0 Fns.a1 Fns.a2 Fns.a3 Fns.a4 abuiltin alenOk alen aindex elemOfT elemId abuildSlice afill chunks ard aappend isSS AV.isStr aminmax placesOf abuild afield aidx isStrD isStrDesc astrop aslice asliceOk abound arange anext aextract aunop aeq AV.ck avseq aveq aconv aconvert onB_t onB_f List.range_succ ti0 ti1 ti2 ti3 ti4 ti5 ti6 ti7 ti8 ti9 ti10 ti11 ti12 ti13 ti14 ti15 ti16 ti17 ti18 ti19 ti20 ti21 ti22 ti23 ti24 ti25 ti26 ti27 ti28 ti29 ti30 ti31 ti32 ti33 ti34 ti35 ti36 ti37 ti38 ti39 ti40 ti41 ti42 ti43 ti44 ti45 ti46 ti47 ti48 ti49 ti50 ti51 ti52 ti53 ti54 ti55 ti56 ti57 ti58 ti59 ti60 ti61 ti62 ti63 ti64 ti65 ti66 ti67 ti68 ti69 ti70 ti71 ti72 ti73 ti74 ti75 ti76 ti77 ti78 ti79 ti80 ti81 ti82 ti83 ti84 ti85 ti86 ti87 ti88 ti89 ti90 ti91 ti92 ti93 ti94 ti95 ti96 ti97 ti98 ti99 ti100 ti101 ti102 ti103 ti104 ti105 ti106 ti107 ti108 ti109 ti110 ti111 ti112 ti113 ti114 ti115 ti116 ti117 ti118 ti119 ti120 ti121 ti122 ti123 ti124 ti125 ti126 ti127 ti128 ti129 ti130 ti131 ti132 ti133 ti134 ti135 ti136 ti137 ti138 ti139 ti140 ti141 ti142 ti143 ti144 ti145 ti146 ti147
theorem ft_Turn0 : FT (env K gw) NoW 18 [.np] s (.bool false) s := by
  refine FT.pure (fn := Tryd.f18) F0_ok mixed Tryd.func18 (by kernel_rfl) (by rfl) rfl rfl (by simp) rfl fun μ w => ?_
  repeat' (first
    | refine WP.t ?_ | refine WP.k ?_ | refine WP.e ?_ | refine Qn ?_ | refine Qr ?_ | refine Qe ?_ | refine Bn ?_ | refine Br ?_ | refine Be ?_ | refine Bx (by decide) ?_
    | (refine RS.nl ?_; refine hk _ _ ?_; clear hk k)
    | ((first | refine RS.st fun A B hA hB => ?_ | refine RQ.st fun A B hA hB => ?_); simp [onW_t, onW_t, onW_f, onV_s]; first | ((first | refine hA _ _ _ ?_ ?_ | refine hA _ _ _ ?_ (by first | exact .inl rfl | exact .inr (by decide)) ?_); (focus (simp [onW_t] <;> omega)); clear hA hB A B) | (refine hB ?_; clear hA hB A B) | (refine onV_if ?_ ?_; (focus (first | omega | (refine ⟨?_, ?_⟩ <;> omega))); simp only [onV_s]; (first | refine hA _ _ _ ?_ ?_ | refine hA _ _ _ ?_ (by first | exact .inl rfl | exact .inr (by decide)) ?_); (focus (simp [onW_t] <;> omega)); clear hA hB A B))
    | (refine RQ.nl ?_; refine hk _ _ ?_; clear hk k)
    | refine WP.sr fun k hk => ?_ | refine WP.r fun k hk => ?_
    | refine WP.sd _ rfl fun k hk => ?_ | refine WP.d _ rfl fun k hk => ?_
    | (refine WP.cc fun A B hA hB => ?_; simp [onW_t, onB_t, onB_f]; first | (refine hA ?_; clear hA hB A B) | (refine hB ?_; clear hA hB A B) | (refine onB_if (fun h => hA ?_) (fun h => hB ?_) <;> clear hA hB A B))
    | refine WP.q ?_ | refine WP.b ?_)
  simp
theorem turn_end {s1 : St} {l lt : List Nat} {rid tid atid ar rd : Nat} {tab : List V} {R : List (List V × Nat)} {rw : AV} (h : RelD s l lt rid tid atid ar tab R rw) (hR : R ≠ []) (hrw : rw = .ls rd 0 R.length)
    (hE : Eff [rd] s s1) (hg : s1.get rd = some (.row 3 (true, 75) ((R.map tr).map (rowC tab)))) : Eff l s s1 ∧ ∃ l', RelP s1 l' rid ar (R.map tr) ∧ ∀ i ∈ l', i ∈ l ∨ (s.nx ≤ i ∧ i < s1.nx) := by
  rcases h.rows with ⟨h1, _⟩ | ⟨_, rd', d1, d2, d3, d4, hrw', hrd⟩
  · exact absurd h1 hR
  rw [hrw] at hrw'
  simp only [AV.ls.injEq] at hrw'
  obtain ⟨rfl, _⟩ := hrw'
  have hEl : Eff l s s1 := hE.mono h.own (by simpa using d1)
  have hs : ∀ i ∈ l, i ≠ rd → s1.get i = s.get i := fun i hi hne => hE.same i (h.own i hi).1 (by simpa using hne)
  have hnx := hE.nx
  refine ⟨hEl, l, ⟨lt, tid, atid, tab, rw, ?_⟩, fun i hi => .inl hi⟩
  refine ⟨h.ht.keep hnx fun i hi => hs i (h.sub i hi) fun e => d2 (e ▸ hi), h.sub, h.hr, h.hat, h.nr, h.na, h.ra, Own.eff hEl h.own (fun i hi => .inl hi) fun i hi => (h.own i hi).1, ?_, ?_, .inr ⟨by simpa using hR, rd, d1, d2, d3, d4, by simpa using hrw, hg⟩, ?_⟩
  · rw [hs rid h.hr (fun e => d3 e.symm)]; exact h.g
  · rw [hs atid h.hat (fun e => d4 e.symm), h.a]
    have key : ∀ (R : List (List V × Nat)) (k : Nat), atL tab k (R.map tr) = atL tab k R := by
      intro R
      induction R with
      | nil => intro k; rfl
      | cons r R ih => intro k; rw [List.map_cons, atL, atL, ih]; rfl
    rw [key]
  · refine ⟨h.ok.arle, fun r hr => ?_, ?_, by simpa using h.ok.len⟩
    · obtain ⟨r0, h0, rfl⟩ := List.mem_map.1 hr
      obtain ⟨a1, a2, a3, a4⟩ := h.ok.row r0 h0
      exact ⟨a1, a2, a3, Nat.min_le_right _ _⟩
    · rw [List.map_map]
      exact h.ok.nd
theorem ft_Turn (hK : 0 < K) (hT : Tens gw) {l lt : List Nat} {rid tid atid ar : Nat} {tab : List V} {R : List (List V × Nat)} {rw : AV} (h : RelD s l lt rid tid atid ar tab R rw) (hR : R.length < 16777216) :
    ∃ r s', FT (env K gw) (fun i => i ∈ l) 18 [.ptr rid 0] s r s' ∧ Eff l s s' ∧ Below s'.nx r ∧
      (r = .bool ((R.map tr).any isDelta) ∧ ∃ l', RelP s' l' rid ar (R.map tr) ∧ ∀ i ∈ l', i ∈ l ∨ (s.nx ≤ i ∧ i < s'.nx)) := by
  refine FT.eff (fn := Tryd.f18) gw (X5_ok hK hT) mixed Tryd.func18 (by kernel_rfl) (by rfl) rfl rfl (by simp) rfl fun μ w => ?_
  have hg := h.g
  have hr := (h.own rid h.hr).1
  rcases h.rows with ⟨rfl, rfl⟩ | ⟨hne, rd, d1, d2, d3, d4, hrw, hrd⟩
  · skip
    repeat' (first
      | refine WP.t ?_ | refine WP.k ?_ | refine WP.e ?_ | refine Qn ?_ | refine Qr ?_ | refine Qe ?_ | refine Bn ?_ | refine Br ?_ | refine Be ?_ | refine Bx (by decide) ?_
      | (refine RS.nl ?_; refine hk _ _ ?_; clear hk k)
      | ((first | refine RS.st fun A B hA hB => ?_ | refine RQ.st fun A B hA hB => ?_); simp [hg, relO, hr, anilCheck, onW_t, onW_f, onV_s]; first | ((first | refine hA _ _ _ ?_ ?_ | refine hA _ _ _ ?_ (by first | exact .inl rfl | exact .inr (by decide)) ?_); (focus (simp [hg, relO, hr, anilCheck] <;> omega)); clear hA hB A B) | (refine hB ?_; clear hA hB A B) | (refine onV_if ?_ ?_; (focus (first | omega | (refine ⟨?_, ?_⟩ <;> omega))); simp only [onV_s]; (first | refine hA _ _ _ ?_ ?_ | refine hA _ _ _ ?_ (by first | exact .inl rfl | exact .inr (by decide)) ?_); (focus (simp [hg, relO, hr, anilCheck] <;> omega)); clear hA hB A B))
      | (refine RQ.nl ?_; refine hk _ _ ?_; clear hk k)
      | refine WP.sr fun k hk => ?_ | refine WP.r fun k hk => ?_
      | refine WP.sd _ rfl fun k hk => ?_ | refine WP.d _ rfl fun k hk => ?_
      | (refine WP.cc fun A B hA hB => ?_; simp [hg, relO, hr, anilCheck, onB_t, onB_f]; first | (refine hA ?_; clear hA hB A B) | (refine hB ?_; clear hA hB A B) | (refine onB_if (fun h => hA ?_) (fun h => hB ?_) <;> clear hA hB A B))
      | refine WP.q ?_ | refine WP.b ?_)
    refine WP_loop (fun n T s' => n = 0 ∧ s' = s ∧ T.get 3 = .bool false ∧ T.get 11 = .int .i64 0 ∧ T.get 12 = .int .i64 0) 0 ⟨rfl, rfl, by simp, by simp, by simp⟩ ?_
    rintro n T s' ⟨_, rfl, g3, g11, g12⟩
    repeat' (first
      | refine WP.t ?_ | refine WP.k ?_ | refine WP.e ?_ | refine Qn ?_ | refine Qr ?_ | refine Qe ?_ | refine Bn ?_ | refine Br ?_ | refine Be ?_ | refine Bx (by decide) ?_
      | (refine RS.nl ?_; refine hk _ _ ?_; clear hk k)
      | ((first | refine RS.st fun A B hA hB => ?_ | refine RQ.st fun A B hA hB => ?_); simp [g3, g11, g12, onW_t, onW_f, onV_s]; first | ((first | refine hA _ _ _ ?_ ?_ | refine hA _ _ _ ?_ (by first | exact .inl rfl | exact .inr (by decide)) ?_); (focus (simp [g3, g11, g12] <;> omega)); clear hA hB A B) | (refine hB ?_; clear hA hB A B) | (refine onV_if ?_ ?_; (focus (first | omega | (refine ⟨?_, ?_⟩ <;> omega))); simp only [onV_s]; (first | refine hA _ _ _ ?_ ?_ | refine hA _ _ _ ?_ (by first | exact .inl rfl | exact .inr (by decide)) ?_); (focus (simp [g3, g11, g12] <;> omega)); clear hA hB A B))
      | (refine RQ.nl ?_; refine hk _ _ ?_; clear hk k)
      | refine WP.sr fun k hk => ?_ | refine WP.r fun k hk => ?_
      | refine WP.sd _ rfl fun k hk => ?_ | refine WP.d _ rfl fun k hk => ?_
      | (refine WP.cc fun A B hA hB => ?_; simp [g3, g11, g12, onB_t, onB_f]; first | (refine hA ?_; clear hA hB A B) | (refine hB ?_; clear hA hB A B) | (refine onB_if (fun h => hA ?_) (fun h => hB ?_) <;> clear hA hB A B))
      | refine WP.q ?_ | refine WP.b ?_)
    exact ⟨.inr rfl, ⟨.bool false, by simp [g3], by simp, rfl, l, ⟨lt, tid, atid, tab, .nsl, h⟩, fun i hi => .inl hi⟩, Eff.refl h.own⟩
  · subst hrw
    have hrdl := (h.own rd d1).1
    repeat' (first
      | refine WP.t ?_ | refine WP.k ?_ | refine WP.e ?_ | refine Qn ?_ | refine Qr ?_ | refine Qe ?_ | refine Bn ?_ | refine Br ?_ | refine Be ?_ | refine Bx (by decide) ?_
      | (refine RS.nl ?_; refine hk _ _ ?_; clear hk k)
      | ((first | refine RS.st fun A B hA hB => ?_ | refine RQ.st fun A B hA hB => ?_); simp [hg, relO, hr, anilCheck, hrd, onW_t, onW_f, onV_s]; first | ((first | refine hA _ _ _ ?_ ?_ | refine hA _ _ _ ?_ (by first | exact .inl rfl | exact .inr (by decide)) ?_); (focus (simp [hg, relO, hr, anilCheck, hrd] <;> omega)); clear hA hB A B) | (refine hB ?_; clear hA hB A B) | (refine onV_if ?_ ?_; (focus (first | omega | (refine ⟨?_, ?_⟩ <;> omega))); simp only [onV_s]; (first | refine hA _ _ _ ?_ ?_ | refine hA _ _ _ ?_ (by first | exact .inl rfl | exact .inr (by decide)) ?_); (focus (simp [hg, relO, hr, anilCheck, hrd] <;> omega)); clear hA hB A B))
      | (refine RQ.nl ?_; refine hk _ _ ?_; clear hk k)
      | refine WP.sr fun k hk => ?_ | refine WP.r fun k hk => ?_
      | refine WP.sd _ rfl fun k hk => ?_ | refine WP.d _ rfl fun k hk => ?_
      | (refine WP.cc fun A B hA hB => ?_; simp [hg, relO, hr, anilCheck, hrd, onB_t, onB_f]; first | (refine hA ?_; clear hA hB A B) | (refine hB ?_; clear hA hB A B) | (refine onB_if (fun h => hA ?_) (fun h => hB ?_) <;> clear hA hB A B))
      | refine WP.q ?_ | refine WP.b ?_)
    have hOr : Own s [rd] := h.own.sub (by simpa using d1)
    refine WP_loop (fun n T s' => ∃ i : Nat, n + i = R.length ∧ T.get 0 = .ptr rid 0 ∧ T.get 3 = .bool (((R.take i).map tr).any isDelta) ∧ T.get 11 = .int .i64 R.length ∧ T.get 12 = .int .i64 i ∧
      Eff [rd] s s' ∧ s'.get rd = some (.row 3 (true, 75) ((turnTo i R).map (rowC tab)))) R.length
      ⟨0, by simp, by simp, by simp, by simp, by simp, Eff.refl hOr, by simpa [turnTo] using hrd⟩ ?_
    rintro n T s' ⟨i, hni, g0, g3, g11, g12, hE, hrow⟩
    have hnx := hE.nx
    have k1 : s'.get rid = some (relO tid ar (.ls rd 0 R.length) atid) := by rw [hE.same rid hr (by simpa using fun e => d3 e.symm)]; exact hg
    by_cases hi : i < R.length
    · have hw : IntKind.i64.wrap ((i : Int) + 1) = (i : Int) + 1 := wrap64 (by omega) (by omega)
      have hlt : ((i : Int) < (R.length : Int)) := by omega
      have hq := turnTo_get hi
      have hqs := turnTo_succ hi
      have hql := turnTo_len R i
      have htk : R.take (i + 1) = R.take i ++ [R[i]] := List.take_succ_eq_append_getElem hi
      obtain ⟨a1, a2, a3, a4⟩ := h.ok.row R[i] (List.getElem_mem hi)
      generalize hv : R[i] = v at *
      generalize hQ : turnTo i R = Q at *
      have hqe : ∀ h : i < Q.length, Q[i]'h = v := fun h => by rw [List.getElem?_eq_getElem h] at hq; exact Option.some.inj hq
      have hw2 : IntKind.i64.wrap ((v.2 : Int) + 1) = (v.2 : Int) + 1 := wrap64 (by omega) (by omega)
      have hmn : (if (2 : Int) < (v.2 : Int) + 1 then (2 : Int) else (v.2 : Int) + 1) = ((tr v).2 : Int) := by
        simp only [tr]
        split <;> omega
      have htr : (tr v).1 = v.1 := rfl
      have d5 : ¬ rid = rd := fun e => d3 e.symm
      have hrd2 : rd < s'.nx := by omega
      cases hb : ((R.take i).map tr).any isDelta with
      | true =>
        rw [hb] at g3
        repeat' (first
          | refine WP.t ?_ | refine WP.k ?_ | refine WP.e ?_ | refine Qn ?_ | refine Qr ?_ | refine Qe ?_ | refine Bn ?_ | refine Br ?_ | refine Be ?_ | refine Bx (by decide) ?_
          | (refine RS.nl ?_; refine hk _ _ ?_; clear hk k)
          | ((first | refine RS.st fun A B hA hB => ?_ | refine RQ.st fun A B hA hB => ?_); simp [g0, g3, g11, g12, hlt, hi, hw, k1, relO, anilCheck, hrow, hq, hqe, hql, rowC, hw2, hmn, hrd2, d1, d5, hr, onW_t, onW_f, onV_s]; first | ((first | refine hA _ _ _ ?_ ?_ | refine hA _ _ _ ?_ (by first | exact .inl rfl | exact .inr (by decide)) ?_); (focus (simp [g0, g3, g11, g12, hlt, hi, hw, k1, relO, anilCheck, hrow, hq, hqe, hql, rowC, hw2, hmn, hrd2, d1, d5, hr] <;> omega)); clear hA hB A B) | (refine hB ?_; clear hA hB A B) | (refine onV_if ?_ ?_; (focus (first | omega | (refine ⟨?_, ?_⟩ <;> omega))); simp only [onV_s]; (first | refine hA _ _ _ ?_ ?_ | refine hA _ _ _ ?_ (by first | exact .inl rfl | exact .inr (by decide)) ?_); (focus (simp [g0, g3, g11, g12, hlt, hi, hw, k1, relO, anilCheck, hrow, hq, hqe, hql, rowC, hw2, hmn, hrd2, d1, d5, hr] <;> omega)); clear hA hB A B))
          | (refine RQ.nl ?_; refine hk _ _ ?_; clear hk k)
          | refine WP.sr fun k hk => ?_ | refine WP.r fun k hk => ?_
          | refine WP.sd _ rfl fun k hk => ?_ | refine WP.d _ rfl fun k hk => ?_
          | (refine WP.cc fun A B hA hB => ?_; simp [g0, g3, g11, g12, hlt, hi, hw, k1, relO, anilCheck, hrow, hq, hqe, hql, rowC, hw2, hmn, hrd2, d1, d5, hr, onB_t, onB_f]; first | (refine hA ?_; clear hA hB A B) | (refine hB ?_; clear hA hB A B) | (refine onB_if (fun h => hA ?_) (fun h => hB ?_) <;> clear hA hB A B))
          | refine WP.q ?_ | refine WP.b ?_)
        refine ⟨n - 1, by omega, i + 1, by omega, by simp [g0], ?_, by simp [g11], by simp, ?_, ?_⟩
        · rw [htk, List.map_append, List.any_append, hb]
          simp [g3]
        · refine Eff.put hE (.inl (by simp)) ?_
          have := OBelow_rowR tab s'.nx (true, 75) (Q.set i (tr v))
          rw [List.map_set] at this
          simpa [rowC, htr] using this
        · rw [hqs, List.map_set]
          simp [rowC, htr]
      | false =>
        rw [hb] at g3
        repeat' (first
          | refine WP.t ?_ | refine WP.k ?_ | refine WP.e ?_ | refine Qn ?_ | refine Qr ?_ | refine Qe ?_ | refine Bn ?_ | refine Br ?_ | refine Be ?_ | refine Bx (by decide) ?_
          | (refine RS.nl ?_; refine hk _ _ ?_; clear hk k)
          | ((first | refine RS.st fun A B hA hB => ?_ | refine RQ.st fun A B hA hB => ?_); simp [g0, g3, g11, g12, hlt, hi, hw, k1, relO, anilCheck, hrow, hq, hqe, hql, rowC, hw2, hmn, hrd2, d1, d5, hr, onW_t, onW_f, onV_s]; first | ((first | refine hA _ _ _ ?_ ?_ | refine hA _ _ _ ?_ (by first | exact .inl rfl | exact .inr (by decide)) ?_); (focus (simp [g0, g3, g11, g12, hlt, hi, hw, k1, relO, anilCheck, hrow, hq, hqe, hql, rowC, hw2, hmn, hrd2, d1, d5, hr] <;> omega)); clear hA hB A B) | (refine hB ?_; clear hA hB A B) | (refine onV_if ?_ ?_; (focus (first | omega | (refine ⟨?_, ?_⟩ <;> omega))); simp only [onV_s]; (first | refine hA _ _ _ ?_ ?_ | refine hA _ _ _ ?_ (by first | exact .inl rfl | exact .inr (by decide)) ?_); (focus (simp [g0, g3, g11, g12, hlt, hi, hw, k1, relO, anilCheck, hrow, hq, hqe, hql, rowC, hw2, hmn, hrd2, d1, d5, hr] <;> omega)); clear hA hB A B))
          | (refine RQ.nl ?_; refine hk _ _ ?_; clear hk k)
          | refine WP.sr fun k hk => ?_ | refine WP.r fun k hk => ?_
          | refine WP.sd _ rfl fun k hk => ?_ | refine WP.d _ rfl fun k hk => ?_
          | (refine WP.cc fun A B hA hB => ?_; simp [g0, g3, g11, g12, hlt, hi, hw, k1, relO, anilCheck, hrow, hq, hqe, hql, rowC, hw2, hmn, hrd2, d1, d5, hr, onB_t, onB_f]; first | (refine hA ?_; clear hA hB A B) | (refine hB ?_; clear hA hB A B) | (refine onB_if (fun h => hA ?_) (fun h => hB ?_) <;> clear hA hB A B))
          | refine WP.q ?_ | refine WP.b ?_)
        refine ⟨n - 1, by omega, i + 1, by omega, by simp [g0], ?_, by simp [g11], by simp, ?_, ?_⟩
        · rw [htk, List.map_append, List.any_append, hb]
          have hbe : (((tr v).2 : Int) == 1) = decide ((tr v).2 = 1) := by
            by_cases e : (tr v).2 = 1
            · simp [e]
            · have : ¬ (((tr v).2 : Nat) : Int) = 1 := by omega
              simp [e, this]
          simp [isDelta, hbe]
        · refine Eff.put hE (.inl (by simp)) ?_
          have := OBelow_rowR tab s'.nx (true, 75) (Q.set i (tr v))
          rw [List.map_set] at this
          simpa [rowC, htr] using this
        · rw [hqs, List.map_set]
          simp [rowC, htr]
    · have hlt : ¬ ((i : Int) < (R.length : Int)) := by omega
      have he : i = R.length := by omega
      have ht : R.take i = R := by rw [he, List.take_length]
      have htt : turnTo i R = R.map tr := by simp [turnTo, he]
      rw [ht] at g3
      rw [htt] at hrow
      repeat' (first
        | refine WP.t ?_ | refine WP.k ?_ | refine WP.e ?_ | refine Qn ?_ | refine Qr ?_ | refine Qe ?_ | refine Bn ?_ | refine Br ?_ | refine Be ?_ | refine Bx (by decide) ?_
        | (refine RS.nl ?_; refine hk _ _ ?_; clear hk k)
        | ((first | refine RS.st fun A B hA hB => ?_ | refine RQ.st fun A B hA hB => ?_); simp [g0, g3, g11, g12, hlt, onW_t, onW_f, onV_s]; first | ((first | refine hA _ _ _ ?_ ?_ | refine hA _ _ _ ?_ (by first | exact .inl rfl | exact .inr (by decide)) ?_); (focus (simp [g0, g3, g11, g12, hlt] <;> omega)); clear hA hB A B) | (refine hB ?_; clear hA hB A B) | (refine onV_if ?_ ?_; (focus (first | omega | (refine ⟨?_, ?_⟩ <;> omega))); simp only [onV_s]; (first | refine hA _ _ _ ?_ ?_ | refine hA _ _ _ ?_ (by first | exact .inl rfl | exact .inr (by decide)) ?_); (focus (simp [g0, g3, g11, g12, hlt] <;> omega)); clear hA hB A B))
        | (refine RQ.nl ?_; refine hk _ _ ?_; clear hk k)
        | refine WP.sr fun k hk => ?_ | refine WP.r fun k hk => ?_
        | refine WP.sd _ rfl fun k hk => ?_ | refine WP.d _ rfl fun k hk => ?_
        | (refine WP.cc fun A B hA hB => ?_; simp [g0, g3, g11, g12, hlt, onB_t, onB_f]; first | (refine hA ?_; clear hA hB A B) | (refine hB ?_; clear hA hB A B) | (refine onB_if (fun h => hA ?_) (fun h => hB ?_) <;> clear hA hB A B))
        | refine WP.q ?_ | refine WP.b ?_)
      obtain ⟨e1, e2⟩ := turn_end h hne rfl hE hrow
      exact ⟨.inr rfl, ⟨.bool ((R.map tr).any isDelta), by simp [g3], by simp, rfl, e2⟩, e1⟩
end
end Go.Am
namespace Go.Am
open Go.Proofs
def Sel (p : List V × Nat → Bool) (R : List (List V × Nat)) : Rows0 := (R.filter p).map (·.1)
theorem Sel_len (p : List V × Nat → Bool) (R : List (List V × Nat)) : (Sel p R).length ≤ R.length := by
  simp only [Sel, List.length_map]; exact List.length_filter_le _ _
theorem Sel_take_t {p : List V × Nat → Bool} {R : List (List V × Nat)} {i : Nat} (h : i < R.length) (hp : p R[i] = true) : Sel p (R.take (i + 1)) = Sel p (R.take i) ++ [R[i].1] := by
  unfold Sel
  rw [List.take_succ_eq_append_getElem h, List.filter_append, List.map_append]
  simp [hp]
theorem Sel_take_f {p : List V × Nat → Bool} {R : List (List V × Nat)} {i : Nat} (h : i < R.length) (hp : p R[i] = false) : Sel p (R.take (i + 1)) = Sel p (R.take i) := by
  unfold Sel
  rw [List.take_succ_eq_append_getElem h, List.filter_append, List.map_append]
  simp [hp]
section
variable {K : Nat} {gw : World} {s : St}
attribute [local simp] awanted xop zOf zrow aop ev T0 Slots.put Slots.set Slots.get awr WOk AV.may ofConst abinop aint isConst St.get_push St.get_put St.live AV.fit AV.cells AV.one fieldOf afieldAddr aload ofCells astore splice May eqres env_ti FinP FinZ FinW ares aresL ares1 Fns.addP Fns.add Fns.a0 Fns.a1 Fns.a2 Fns.a3 Fns.a4 abuiltin alenOk alen aindex elemOfT elemId abuildSlice afill chunks ard aappend isSS AV.isStr aminmax placesOf abuild afield aidx isStrD isStrDesc astrop aslice asliceOk abound arange anext aextract aunop aeq AV.ck avseq aveq aconv aconvert onB_t onB_f List.range_succ ti0 ti1 ti2 ti3 ti4 ti5 ti6 ti7 ti8 ti9 ti10 ti11 ti12 ti13 ti14 ti15 ti16 ti17 ti18 ti19 ti20 ti21 ti22 ti23 ti24 ti25 ti26 ti27 ti28 ti29 ti30 ti31 ti32 ti33 ti34 ti35 ti36 ti37 ti38 ti39 ti40 ti41 ti42 ti43 ti44 ti45 ti46 ti47 ti48 ti49 ti50 ti51 ti52 ti53 ti54 ti55 ti56 ti57 ti58 ti59 ti60 ti61 ti62 ti63 ti64 ti65 ti66 ti67 ti68 ti69 ti70 ti71 ti72 ti73 ti74 ti75 ti76 ti77 ti78 ti79 ti80 ti81 ti82 ti83 ti84 ti85 ti86 ti87 ti88 ti89 ti90 ti91 ti92 ti93 ti94 ti95 ti96 ti97 ti98 ti99 ti100 ti101 ti102 ti103 ti104 ti105 ti106 ti107 ti108 ti109 ti110 ti111 ti112 ti113 ti114 ti115 ti116 ti117 ti118 ti119 ti120 ti121 ti122 ti123 ti124 ti125 ti126 ti127 ti128 ti129 ti130 ti131 ti132 ti133 ti134 ti135 ti136 ti137 ti138 ti139 ti140 ti141 ti142 ti143 ti144 ti145 ti146 ti147
theorem below_esD (n : Nat) (D : Rows0) : ∀ e ∈ encD D, ∀ x ∈ e, Below n x := fun e he x hx => by
  obtain ⟨r, _, rfl⟩ := List.mem_map.1 he
  simp only [Rw, List.mem_cons, List.mem_nil_iff, or_false] at hx
  subst hx
  exact below_slV _ _
theorem ft_some0 (x : AV) : FT (env K gw) NoW 34 [.np, x] s (.sl []) s := by
  refine FT.data (fn := Tryd.f34) F0_ok mixed Tryd.func34 (by kernel_rfl) (by rfl) rfl rfl (by simp) rfl fun μ w => ?_
  repeat' (first
    | refine WP.t ?_ | refine WP.k ?_ | refine WP.e ?_ | refine Qn ?_ | refine Qr ?_ | refine Qe ?_ | refine Bn ?_ | refine Br ?_ | refine Be ?_ | refine Bx (by decide) ?_
    | (refine RS.nl ?_; refine hk _ _ ?_; clear hk k)
    | ((first | refine RS.st fun A B hA hB => ?_ | refine RQ.st fun A B hA hB => ?_); simp [onW_t, onW_t, onW_f, onV_s]; first | ((first | refine hA _ _ _ ?_ ?_ | refine hA _ _ _ ?_ (by first | exact .inl rfl | exact .inr (by decide)) ?_); (focus (simp [onW_t] <;> omega)); clear hA hB A B) | (refine hB ?_; clear hA hB A B) | (refine onV_if ?_ ?_; (focus (first | omega | (refine ⟨?_, ?_⟩ <;> omega))); simp only [onV_s]; (first | refine hA _ _ _ ?_ ?_ | refine hA _ _ _ ?_ (by first | exact .inl rfl | exact .inr (by decide)) ?_); (focus (simp [onW_t] <;> omega)); clear hA hB A B))
    | (refine RQ.nl ?_; refine hk _ _ ?_; clear hk k)
    | refine WP.sr fun k hk => ?_ | refine WP.r fun k hk => ?_
    | refine WP.sd _ rfl fun k hk => ?_ | refine WP.d _ rfl fun k hk => ?_
    | (refine WP.cc fun A B hA hB => ?_; simp [onW_t, onB_t, onB_f]; first | (refine hA ?_; clear hA hB A B) | (refine hB ?_; clear hA hB A B) | (refine onB_if (fun h => hA ?_) (fun h => hB ?_) <;> clear hA hB A B))
    | refine WP.q ?_ | refine WP.b ?_)
  exact ⟨.inr rfl, .nsl, by simp, .nil⟩
theorem ft_some {F : Fns} (hF : FOk (env K gw) F) (hof : ∀ (t : List V) (s2 : St), t.length < 1073741824 → F 33 [.sl (t.map V.cs)] s2 = some (.sl ((t.map bareV).map V.cs), s2, []))
    (hsrt : ∀ (D : Rows0) (s2 : St), D.length < 268435456 → (∀ t ∈ D, t.length < 1000) → F 50 [.sl (encD D)] s2 = some (.sl (encD (srt D)), s2, []))
    {l lt : List Nat} {rid tid atid ar : Nat} {tab : List V} {R : List (List V × Nat)} {rw : AV} (h : RelD s l lt rid tid atid ar tab R rw) (hR : R.length < 16777216)
    (f : FuncId) (a b : List AV) (p : List V × Nat → Bool)
    (hclo : ∀ r ∈ R, ∀ s2 : St, s.nx ≤ s2.nx → (∀ i, i < s.nx → s2.get i = s.get i) → F f (a ++ (.agg (rowC tab r) :: b)) s2 = some (.bool (p r), s2, [])) :
    FT (env K gw) NoW 34 [.ptr rid 0, .fn (.func f) a b] s (.sl (encD (srt (Sel p R)))) s := by
  have hg := h.g
  have hr := (h.own rid h.hr).1
  have har := h.ok.arle
  have hsr : ∀ s2 : St, F 50 [.sl (encD (Sel p R))] s2 = some (.sl (encD (srt (Sel p R))), s2, []) := fun s2 => by
    have := Sel_len p R
    refine hsrt _ s2 (by omega) fun t ht => ?_
    obtain ⟨r, hr, rfl⟩ := List.mem_map.1 ht
    have := (h.ok.row r (List.mem_filter.1 hr |>.1)).1
    omega
  refine FT.pure (fn := Tryd.f34) hF mixed Tryd.func34 (by kernel_rfl) (by rfl) rfl rfl (by simp) rfl fun μ w => ?_
  have start : ∃ n0 : Nat, n0 = R.length := ⟨_, rfl⟩
  have hlenv : ∃ cap, rw = .nsl ∧ R = [] ∨ rw = .ls cap 0 R.length ∧ R ≠ [] ∧ cap < s.nx ∧ s.get cap = some (.row 3 (true, 75) (R.map (rowC tab))) := by
    rcases h.rows with ⟨h1, h2⟩ | ⟨hne, rd, d1, d2, d3, d4, hrw, hrd⟩
    · exact ⟨0, .inl ⟨h2, h1⟩⟩
    · exact ⟨rd, .inr ⟨hrw, hne, (h.own rd d1).1, hrd⟩⟩
  obtain ⟨rd, hrw | ⟨rfl, hne, hrd1, hrd⟩⟩ := hlenv
  · obtain ⟨rfl, rfl⟩ := hrw
    repeat' (first
      | refine WP.t ?_ | refine WP.k ?_ | refine WP.e ?_ | refine Qn ?_ | refine Qr ?_ | refine Qe ?_ | refine Bn ?_ | refine Br ?_ | refine Be ?_ | refine Bx (by decide) ?_
      | (refine RS.nl ?_; refine hk _ _ ?_; clear hk k)
      | ((first | refine RS.st fun A B hA hB => ?_ | refine RQ.st fun A B hA hB => ?_); simp [hg, relO, hr, anilCheck, onW_t, onW_f, onV_s]; first | ((first | refine hA _ _ _ ?_ ?_ | refine hA _ _ _ ?_ (by first | exact .inl rfl | exact .inr (by decide)) ?_); (focus (simp [hg, relO, hr, anilCheck] <;> omega)); clear hA hB A B) | (refine hB ?_; clear hA hB A B) | (refine onV_if ?_ ?_; (focus (first | omega | (refine ⟨?_, ?_⟩ <;> omega))); simp only [onV_s]; (first | refine hA _ _ _ ?_ ?_ | refine hA _ _ _ ?_ (by first | exact .inl rfl | exact .inr (by decide)) ?_); (focus (simp [hg, relO, hr, anilCheck] <;> omega)); clear hA hB A B))
      | (refine RQ.nl ?_; refine hk _ _ ?_; clear hk k)
      | refine WP.sr fun k hk => ?_ | refine WP.r fun k hk => ?_
      | refine WP.sd _ rfl fun k hk => ?_ | refine WP.d _ rfl fun k hk => ?_
      | (refine WP.cc fun A B hA hB => ?_; simp [hg, relO, hr, anilCheck, onB_t, onB_f]; first | (refine hA ?_; clear hA hB A B) | (refine hB ?_; clear hA hB A B) | (refine onB_if (fun h => hA ?_) (fun h => hB ?_) <;> clear hA hB A B))
      | refine WP.q ?_ | refine WP.b ?_)
    refine WP_loop (fun n T s' => n = 0 ∧ s' = s ∧ T.get 5 = .nsl ∧ T.get 14 = .int .i64 0 ∧ T.get 15 = .int .i64 0) 0 ⟨rfl, rfl, by simp, by simp, by simp⟩ ?_
    rintro n T s' ⟨_, rfl, g5, g14, g15⟩
    refine WP.nl 5 g5 ?_
    have hs0 : ∀ s2 : St, F 50 [.sl []] s2 = some (.sl (encD (srt (Sel p []))), s2, []) := hsr
    repeat' (first
      | refine WP.t ?_ | refine WP.k ?_ | refine WP.e ?_ | refine Qn ?_ | refine Qr ?_ | refine Qe ?_ | refine Bn ?_ | refine Br ?_ | refine Be ?_ | refine Bx (by decide) ?_
      | (refine RS.nl ?_; refine hk _ _ ?_; clear hk k)
      | ((first | refine RS.st fun A B hA hB => ?_ | refine RQ.st fun A B hA hB => ?_); simp [g5, g14, g15, Slots.get_set', hs0, onW_t, onW_f, onV_s]; first | ((first | refine hA _ _ _ ?_ ?_ | refine hA _ _ _ ?_ (by first | exact .inl rfl | exact .inr (by decide)) ?_); (focus (simp [g5, g14, g15, Slots.get_set', hs0] <;> omega)); clear hA hB A B) | (refine hB ?_; clear hA hB A B) | (refine onV_if ?_ ?_; (focus (first | omega | (refine ⟨?_, ?_⟩ <;> omega))); simp only [onV_s]; (first | refine hA _ _ _ ?_ ?_ | refine hA _ _ _ ?_ (by first | exact .inl rfl | exact .inr (by decide)) ?_); (focus (simp [g5, g14, g15, Slots.get_set', hs0] <;> omega)); clear hA hB A B))
      | (refine RQ.nl ?_; refine hk _ _ ?_; clear hk k)
      | refine WP.sr fun k hk => ?_ | refine WP.r fun k hk => ?_
      | refine WP.sd _ rfl fun k hk => ?_ | refine WP.d _ rfl fun k hk => ?_
      | (refine WP.cc fun A B hA hB => ?_; simp [g5, g14, g15, Slots.get_set', hs0, onB_t, onB_f]; first | (refine hA ?_; clear hA hB A B) | (refine hB ?_; clear hA hB A B) | (refine onB_if (fun h => hA ?_) (fun h => hB ?_) <;> clear hA hB A B))
      | refine WP.q ?_ | refine WP.b ?_)
    exact ⟨.inr rfl, by simp, below_sl.2 (below_esD _ _)⟩
  · skip
    repeat' (first
      | refine WP.t ?_ | refine WP.k ?_ | refine WP.e ?_ | refine Qn ?_ | refine Qr ?_ | refine Qe ?_ | refine Bn ?_ | refine Br ?_ | refine Be ?_ | refine Bx (by decide) ?_
      | (refine RS.nl ?_; refine hk _ _ ?_; clear hk k)
      | ((first | refine RS.st fun A B hA hB => ?_ | refine RQ.st fun A B hA hB => ?_); simp [hg, relO, hr, anilCheck, hrd, onW_t, onW_f, onV_s]; first | ((first | refine hA _ _ _ ?_ ?_ | refine hA _ _ _ ?_ (by first | exact .inl rfl | exact .inr (by decide)) ?_); (focus (simp [hg, relO, hr, anilCheck, hrd] <;> omega)); clear hA hB A B) | (refine hB ?_; clear hA hB A B) | (refine onV_if ?_ ?_; (focus (first | omega | (refine ⟨?_, ?_⟩ <;> omega))); simp only [onV_s]; (first | refine hA _ _ _ ?_ ?_ | refine hA _ _ _ ?_ (by first | exact .inl rfl | exact .inr (by decide)) ?_); (focus (simp [hg, relO, hr, anilCheck, hrd] <;> omega)); clear hA hB A B))
      | (refine RQ.nl ?_; refine hk _ _ ?_; clear hk k)
      | refine WP.sr fun k hk => ?_ | refine WP.r fun k hk => ?_
      | refine WP.sd _ rfl fun k hk => ?_ | refine WP.d _ rfl fun k hk => ?_
      | (refine WP.cc fun A B hA hB => ?_; simp [hg, relO, hr, anilCheck, hrd, onB_t, onB_f]; first | (refine hA ?_; clear hA hB A B) | (refine hB ?_; clear hA hB A B) | (refine onB_if (fun h => hA ?_) (fun h => hB ?_) <;> clear hA hB A B))
      | refine WP.q ?_ | refine WP.b ?_)
    refine WP_loop (fun n T s' => ∃ i : Nat, n + i = R.length ∧ T.get 0 = .ptr rid 0 ∧ T.get 1 = .fn (.func f) a b ∧ T.get 13 = .ls rd 0 R.length ∧ T.get 14 = .int .i64 R.length ∧ T.get 15 = .int .i64 i ∧ s.nx ≤ s'.nx ∧
      (∀ j, j < s.nx → s'.get j = s.get j) ∧
      ((Sel p (R.take i) = [] ∧ T.get 5 = .nsl) ∨ (Sel p (R.take i) ≠ [] ∧ ∃ q, s.nx ≤ q ∧ q < s'.nx ∧ T.get 5 = .ls q 0 (Sel p (R.take i)).length ∧ s'.get q = some (.row 1 (true, 33) (encD (Sel p (R.take i))))))) R.length
      ⟨0, by simp, by simp, by simp, by simp, by simp, by simp, by simp, fun j hj => rfl, .inl ⟨by simp [Sel], by simp⟩⟩ ?_
    rintro n T s' ⟨i, hni, g0, g1, g13, g14, g15, hnx, hfr, hB⟩
    by_cases hi : i < R.length
    · have hw : IntKind.i64.wrap ((i : Int) + 1) = (i : Int) + 1 := wrap64 (by omega) (by omega)
      have hlt : ((i : Int) < (R.length : Int)) := by omega
      have hst := Sel_take_t (p := p) hi
      have hsf := Sel_take_f (p := p) hi
      have hmem : R[i] ∈ R := List.getElem_mem hi
      have hq : R[i]? = some R[i] := List.getElem?_eq_getElem hi
      have k1 : s'.get rd = some (.row 3 (true, 75) (R.map (rowC tab))) := by rw [hfr rd hrd1]; exact hrd
      have hsl := Sel_len p (R.take i)
      have hsl2 : (R.take i).length ≤ R.length := by simp; omega
      obtain ⟨a1, a2, a3, a4⟩ := h.ok.row R[i] hmem
      generalize hv : R[i] = v at *
      have hrc : rowC tab v = [.sl (v.1.map V.cs), .sl (nums (idxs tab v.1)), .int .i64 (v.2 : Int)] := rfl
      generalize hsA : (s'.push (.var 75 [.nsl, .nsl, .int .i64 0])).put s'.nx (.var 75 (rowC tab v)) = sA
      have hAn : sA.nx = s'.nx + 1 := by rw [← hsA]; simp
      have hAg : ∀ j, j < s'.nx → sA.get j = s'.get j := fun j hj => by
        have : ¬ j = s'.nx := by omega
        rw [← hsA]; simp [St.get_put, St.get_push, this]
      have hAv : sA.get s'.nx = some (.var 75 (rowC tab v)) := by rw [← hsA]; simp [St.get_put]
      have hcl := hclo v hmem sA (by omega) fun j hj => by rw [hAg j (by omega), hfr j hj]
      have hofv := hof v.1 sA (by omega)
      rw [a3] at hofv
      have hrd2 : rd < s'.nx := by omega
      rw [hrc] at hcl hsA hAv
      cases hp : p v with
      | false =>
        rw [hp] at hcl
        replace hsf := hsf hp
        repeat' (first
          | refine WP.t ?_ | refine WP.k ?_ | refine WP.e ?_ | refine Qn ?_ | refine Qr ?_ | refine Qe ?_ | refine Bn ?_ | refine Br ?_ | refine Be ?_ | refine Bx (by decide) ?_
          | (refine RS.nl ?_; refine hk _ _ ?_; clear hk k)
          | ((first | refine RS.st fun A B hA hB => ?_ | refine RQ.st fun A B hA hB => ?_); simp [g0, g1, g13, g14, g15, hlt, hi, hq, hw, hv, k1, relO, anilCheck, hrc, hsA, hAv, hcl, hrd2, hAn, onW_t, onW_f, onV_s]; first | ((first | refine hA _ _ _ ?_ ?_ | refine hA _ _ _ ?_ (by first | exact .inl rfl | exact .inr (by decide)) ?_); (focus (simp [g0, g1, g13, g14, g15, hlt, hi, hq, hw, hv, k1, relO, anilCheck, hrc, hsA, hAv, hcl, hrd2, hAn] <;> omega)); clear hA hB A B) | (refine hB ?_; clear hA hB A B) | (refine onV_if ?_ ?_; (focus (first | omega | (refine ⟨?_, ?_⟩ <;> omega))); simp only [onV_s]; (first | refine hA _ _ _ ?_ ?_ | refine hA _ _ _ ?_ (by first | exact .inl rfl | exact .inr (by decide)) ?_); (focus (simp [g0, g1, g13, g14, g15, hlt, hi, hq, hw, hv, k1, relO, anilCheck, hrc, hsA, hAv, hcl, hrd2, hAn] <;> omega)); clear hA hB A B))
          | (refine RQ.nl ?_; refine hk _ _ ?_; clear hk k)
          | refine WP.sr fun k hk => ?_ | refine WP.r fun k hk => ?_
          | refine WP.sd _ rfl fun k hk => ?_ | refine WP.d _ rfl fun k hk => ?_
          | (refine WP.cc fun A B hA hB => ?_; simp [g0, g1, g13, g14, g15, hlt, hi, hq, hw, hv, k1, relO, anilCheck, hrc, hsA, hAv, hcl, hrd2, hAn, onB_t, onB_f]; first | (refine hA ?_; clear hA hB A B) | (refine hB ?_; clear hA hB A B) | (refine onB_if (fun h => hA ?_) (fun h => hB ?_) <;> clear hA hB A B))
          | refine WP.q ?_ | refine WP.b ?_)
        refine ⟨n - 1, by omega, i + 1, by omega, by simp [g0], by simp [g1], by simp [g13], by simp [g14], by simp, by omega, fun j hj => by rw [hAg j (by omega), hfr j hj], ?_⟩
        rw [hsf]
        rcases hB with ⟨h0, g5⟩ | ⟨h0, q, q1, q2, g5, q3⟩
        · exact .inl ⟨h0, by simp [g5]⟩
        · exact .inr ⟨h0, q, q1, by omega, by simp [g5], by rw [hAg q q2]; exact q3⟩
      | true =>
        rw [hp] at hcl
        replace hst := hst hp
        have hbd : ∀ n : Nat, Below n (.sl (v.1.map V.cs)) := fun n => below_slV n v.1
        have hb1 : ∀ (a : V) (x : AV), (x ∈ a.cs) = (x = .bool a.b ∨ x = .str a.s ∨ x = .int .i64 a.n) := fun a x => by simp [V.cs]
        rcases hB with ⟨h0, g5⟩ | ⟨h0, q, q1, q2, g5, q3⟩
        · skip
          repeat' (first
            | refine WP.t ?_ | refine WP.k ?_ | refine WP.e ?_ | refine Qn ?_ | refine Qr ?_ | refine Qe ?_ | refine Bn ?_ | refine Br ?_ | refine Be ?_ | refine Bx (by decide) ?_
            | (refine RS.nl ?_; refine hk _ _ ?_; clear hk k)
            | ((first | refine RS.st fun A B hA hB => ?_ | refine RQ.st fun A B hA hB => ?_); simp [g0, g1, g5, g13, g14, g15, hlt, hi, hq, hw, hv, k1, relO, anilCheck, hrc, hsA, hAv, hcl, hrd2, hAn, hofv, hb1, onW_t, onW_f, onV_s]; first | ((first | refine hA _ _ _ ?_ ?_ | refine hA _ _ _ ?_ (by first | exact .inl rfl | exact .inr (by decide)) ?_); (focus (simp [g0, g1, g5, g13, g14, g15, hlt, hi, hq, hw, hv, k1, relO, anilCheck, hrc, hsA, hAv, hcl, hrd2, hAn, hofv, hb1] <;> omega)); clear hA hB A B) | (refine hB ?_; clear hA hB A B) | (refine onV_if ?_ ?_; (focus (first | omega | (refine ⟨?_, ?_⟩ <;> omega))); simp only [onV_s]; (first | refine hA _ _ _ ?_ ?_ | refine hA _ _ _ ?_ (by first | exact .inl rfl | exact .inr (by decide)) ?_); (focus (simp [g0, g1, g5, g13, g14, g15, hlt, hi, hq, hw, hv, k1, relO, anilCheck, hrc, hsA, hAv, hcl, hrd2, hAn, hofv, hb1] <;> omega)); clear hA hB A B))
            | (refine RQ.nl ?_; refine hk _ _ ?_; clear hk k)
            | refine WP.sr fun k hk => ?_ | refine WP.r fun k hk => ?_
            | refine WP.sd _ rfl fun k hk => ?_ | refine WP.d _ rfl fun k hk => ?_
            | (refine WP.cc fun A B hA hB => ?_; simp [g0, g1, g5, g13, g14, g15, hlt, hi, hq, hw, hv, k1, relO, anilCheck, hrc, hsA, hAv, hcl, hrd2, hAn, hofv, hb1, onB_t, onB_f]; first | (refine hA ?_; clear hA hB A B) | (refine hB ?_; clear hA hB A B) | (refine onB_if (fun h => hA ?_) (fun h => hB ?_) <;> clear hA hB A B))
            | refine WP.q ?_ | refine WP.b ?_)
          refine ⟨n - 1, by omega, i + 1, by omega, by simp [g0], by simp [g1], by simp [g13], by simp [g14], by simp, by simp; omega, fun j hj => ?_, ?_⟩
          · have : ¬ j = sA.nx := by omega
            simp only [St.get_push, this, if_false]
            rw [hAg j (by omega), hfr j hj]
          · rw [hst, h0]
            exact .inr ⟨by simp, sA.nx, by omega, by simp, by simp [hAn], by simp [encD, Rw]⟩
        · have e1 : ¬ q = sA.nx := by omega
          have e2 : q < sA.nx := by omega
          have q4 : sA.get q = some (.row 1 (true, 33) (encD (Sel p (R.take i)))) := by rw [hAg q q2]; exact q3
          have hln : (encD (Sel p (R.take i))).length = (Sel p (R.take i)).length := by simp [encD]
          have htl : List.take (Sel p (R.take i)).length (encD (Sel p (R.take i))) = encD (Sel p (R.take i)) := List.take_of_length_le (by omega)
          have hby : ((Sel p (R.take i)).length + 1) * 24 ≤ 140737488355328 := by omega
          repeat' (first
            | refine WP.t ?_ | refine WP.k ?_ | refine WP.e ?_ | refine Qn ?_ | refine Qr ?_ | refine Qe ?_ | refine Bn ?_ | refine Br ?_ | refine Be ?_ | refine Bx (by decide) ?_
            | (refine RS.nl ?_; refine hk _ _ ?_; clear hk k)
            | ((first | refine RS.st fun A B hA hB => ?_ | refine RQ.st fun A B hA hB => ?_); simp [g0, g1, g5, g13, g14, g15, hlt, hi, hq, hw, hv, k1, relO, anilCheck, hrc, hsA, hAv, hcl, hrd2, hAn, hofv, hb1, q1, q4, e1, e2, hln, htl, hby, onW_t, onW_f, onV_s]; first | ((first | refine hA _ _ _ ?_ ?_ | refine hA _ _ _ ?_ (by first | exact .inl rfl | exact .inr (by decide)) ?_); (focus (simp [g0, g1, g5, g13, g14, g15, hlt, hi, hq, hw, hv, k1, relO, anilCheck, hrc, hsA, hAv, hcl, hrd2, hAn, hofv, hb1, q1, q4, e1, e2, hln, htl, hby] <;> omega)); clear hA hB A B) | (refine hB ?_; clear hA hB A B) | (refine onV_if ?_ ?_; (focus (first | omega | (refine ⟨?_, ?_⟩ <;> omega))); simp only [onV_s]; (first | refine hA _ _ _ ?_ ?_ | refine hA _ _ _ ?_ (by first | exact .inl rfl | exact .inr (by decide)) ?_); (focus (simp [g0, g1, g5, g13, g14, g15, hlt, hi, hq, hw, hv, k1, relO, anilCheck, hrc, hsA, hAv, hcl, hrd2, hAn, hofv, hb1, q1, q4, e1, e2, hln, htl, hby] <;> omega)); clear hA hB A B))
            | (refine RQ.nl ?_; refine hk _ _ ?_; clear hk k)
            | refine WP.sr fun k hk => ?_ | refine WP.r fun k hk => ?_
            | refine WP.sd _ rfl fun k hk => ?_ | refine WP.d _ rfl fun k hk => ?_
            | (refine WP.cc fun A B hA hB => ?_; simp [g0, g1, g5, g13, g14, g15, hlt, hi, hq, hw, hv, k1, relO, anilCheck, hrc, hsA, hAv, hcl, hrd2, hAn, hofv, hb1, q1, q4, e1, e2, hln, htl, hby, onB_t, onB_f]; first | (refine hA ?_; clear hA hB A B) | (refine hB ?_; clear hA hB A B) | (refine onB_if (fun h => hA ?_) (fun h => hB ?_) <;> clear hA hB A B))
            | refine WP.q ?_ | refine WP.b ?_)
          refine ⟨n - 1, by omega, i + 1, by omega, by simp [g0], by simp [g1], by simp [g13], by simp [g14], by simp, by simp; omega, fun j hj => ?_, ?_⟩
          · have n1 : ¬ j = sA.nx := by omega
            have n2 : ¬ j = q := by omega
            simp [St.get_push, St.get_drop, n1, n2]
            rw [hAg j (by omega), hfr j hj]
          · rw [hst]
            have e3 : ∀ s2 : St, s2.nx = sA.nx → ∀ o, (s2.push o).get sA.nx = some o := fun s2 h o => by rw [← h]; exact St.get_push_same _ _
            exact .inr ⟨by simp, sA.nx, by omega, by simp, by simp [hAn], by rw [e3 _ (by simp)]; simp [encD, Rw]⟩
    · have hlt : ¬ ((i : Int) < (R.length : Int)) := by omega
      have he : i = R.length := by omega
      have ht : R.take i = R := by rw [he, List.take_length]
      rw [ht] at hB
      have hpre : ∃ T1 s1, Gh s.nx T s' T1 s1 ∧ T1.get 5 = .sl (encD (Sel p R)) ∧ T1.get 14 = .int .i64 R.length ∧ T1.get 15 = .int .i64 i := by
        rcases hB with ⟨h0, g5⟩ | ⟨h0, q, q1, q2, g5, q3⟩
        · rw [h0]
          exact ⟨T.set 5 (.sl []), s', .nl 5 g5 (.refl _ _), by simp [Slots.get_set', encD], by simp [Slots.get_set', g14], by simp [Slots.get_set', g15]⟩
        · have hln : (Sel p R).length = (encD (Sel p R)).length := by simp [encD]
          exact ⟨T.set 5 (.sl (encD (Sel p R))), s'.drop q, .fz 5 q 1 _ _ (by rw [g5, hln]) q3 q1 (.refl _ _), by simp [Slots.get_set'], by simp [Slots.get_set', g14], by simp [Slots.get_set', g15]⟩
      obtain ⟨T1, s1, hgh, f5, f14, f15⟩ := hpre
      refine WP.gh hgh ?_
      repeat' (first
        | refine WP.t ?_ | refine WP.k ?_ | refine WP.e ?_ | refine Qn ?_ | refine Qr ?_ | refine Qe ?_ | refine Bn ?_ | refine Br ?_ | refine Be ?_ | refine Bx (by decide) ?_
        | (refine RS.nl ?_; refine hk _ _ ?_; clear hk k)
        | ((first | refine RS.st fun A B hA hB => ?_ | refine RQ.st fun A B hA hB => ?_); simp [f5, f14, f15, hlt, hsr, onW_t, onW_f, onV_s]; first | ((first | refine hA _ _ _ ?_ ?_ | refine hA _ _ _ ?_ (by first | exact .inl rfl | exact .inr (by decide)) ?_); (focus (simp [f5, f14, f15, hlt, hsr] <;> omega)); clear hA hB A B) | (refine hB ?_; clear hA hB A B) | (refine onV_if ?_ ?_; (focus (first | omega | (refine ⟨?_, ?_⟩ <;> omega))); simp only [onV_s]; (first | refine hA _ _ _ ?_ ?_ | refine hA _ _ _ ?_ (by first | exact .inl rfl | exact .inr (by decide)) ?_); (focus (simp [f5, f14, f15, hlt, hsr] <;> omega)); clear hA hB A B))
        | (refine RQ.nl ?_; refine hk _ _ ?_; clear hk k)
        | refine WP.sr fun k hk => ?_ | refine WP.r fun k hk => ?_
        | refine WP.sd _ rfl fun k hk => ?_ | refine WP.d _ rfl fun k hk => ?_
        | (refine WP.cc fun A B hA hB => ?_; simp [f5, f14, f15, hlt, hsr, onB_t, onB_f]; first | (refine hA ?_; clear hA hB A B) | (refine hB ?_; clear hA hB A B) | (refine onB_if (fun h => hA ?_) (fun h => hB ?_) <;> clear hA hB A B))
        | refine WP.q ?_ | refine WP.b ?_)
      exact ⟨.inr rfl, by simp, below_sl.2 (below_esD _ _)⟩
end
end Go.Am
