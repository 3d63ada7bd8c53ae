/- Part of the proof: abstract values over the given model of Go (S1, S2, S3, S4, S5, S6, S7, S8). Conditions: none of its own; see the statement in the seat's Rows text. -/
import Derived.Test.YtcahihhgikmloaaDoorAmSd
import Derived.Test.YtcahihhgikmloaaDoorAmSa
import Derived.Test.YtcahihhgikmloaaDoorAmFour
import Derived.Test.YtcahihhgikmloaaDoorAmPa
set_option linter.unusedSimpArgs false
set_option linter.unusedVariables false
set_option linter.unusedSectionVars false
namespace Go.Am
open Go.Proofs
deriving instance DecidableEq for V
section
variable {K : Nat} {gw : World} {s : St}
attribute [local simp] awanted xop zOf zrow aop ev T0 Slots.put Slots.set Slots.get awr WOk AV.may ofConst abinop aint isConst St.get_push St.get_put St.live AV.fit AV.cells AV.one fieldOf afieldAddr aload ofCells astore splice May eqres env_ti FinP FinZ FinW ares aresL ares1 Fns.addP Fns.add Fns.a0 Fns.a1 Fns.a2 Fns.a3 Fns.a4 abuiltin alenOk alen aindex elemOfT elemId abuildSlice afill chunks ard aappend isSS AV.isStr aminmax placesOf abuild afield aidx isStrD isStrDesc astrop aslice asliceOk abound arange anext aextract aunop aeq AV.ck avseq aveq aconv aconvert onB_t onB_f List.range_succ ti0 ti1 ti2 ti3 ti4 ti5 ti6 ti7 ti8 ti9 ti10 ti11 ti12 ti13 ti14 ti15 ti16 ti17 ti18 ti19 ti20 ti21 ti22 ti23 ti24 ti25 ti26 ti27 ti28 ti29 ti30 ti31 ti32 ti33 ti34 ti35 ti36 ti37 ti38 ti39 ti40 ti41 ti42 ti43 ti44 ti45 ti46 ti47 ti48 ti49 ti50 ti51 ti52 ti53 ti54 ti55 ti56 ti57 ti58 ti59 ti60 ti61 ti62 ti63 ti64 ti65 ti66 ti67 ti68 ti69 ti70 ti71 ti72 ti73 ti74 ti75 ti76 ti77 ti78 ti79 ti80 ti81 ti82 ti83 ti84 ti85 ti86 ti87 ti88 ti89 ti90 ti91 ti92 ti93 ti94 ti95 ti96 ti97 ti98 ti99 ti100 ti101 ti102 ti103 ti104 ti105 ti106 ti107 ti108 ti109 ti110 ti111 ti112 ti113 ti114 ti115 ti116 ti117 ti118 ti119 ti120 ti121 ti122 ti123 ti124 ti125 ti126 ti127 ti128 ti129 ti130 ti131 ti132 ti133 ti134 ti135 ti136 ti137 ti138 ti139 ti140 ti141 ti142 ti143 ti144 ti145 ti146 ti147
/-! symtab: a table is a var of two cells (its map of numbers, its values); the map lies by itself. -/
theorem miV : miOf (env K gw) 85 = some ⟨25, true, [.b, .s, .i], .int .i64 0⟩ := by
  have h1 : mzOf Tryd.prog 3 = some (.int .i64 0) := by kernel_rfl
  simp only [miOf, env_ti, ti85, ti25, kV]
  simp only [env_P, h1]
/-- What the map tells of values. -/
def numF (k : Nat) : List V → List (AV × AV)
  | [] => []
  | v :: vs => (.agg v.cs, .int .i64 (k : Int)) :: numF (k + 1) vs
def findF (v : V) : List V → Option Nat
  | [] => none
  | u :: us => if v = u then some 0 else (findF v us).map (· + 1)
theorem seq_cs (v u : V) : avseq v.cs u.cs = some (decide (v = u)) := by
  obtain ⟨b, x, n⟩ := v
  obtain ⟨b', x', n'⟩ := u
  simp only [V.cs, avseq, aveq, if_true, Option.some.injEq, V.mk.injEq]
  by_cases h1 : b = b' <;> by_cases h2 : x = x' <;> by_cases h3 : n = n' <;> simp [h1, h2, h3]
theorem akok_cs (v : V) : akok true [.b, .s, .i] (.agg v.cs) = true := by simp [akok, AV.cells, V.cs, AV.ck]
theorem afind_num (v : V) : ∀ (vs : List V) (k : Nat), afind true [.b, .s, .i] (.agg v.cs) (numF k vs) = some ((findF v vs).map fun i => (i, .int .i64 ((k + i : Nat) : Int)))
  | [], k => rfl
  | u :: us, k => by
    have e : (AV.agg v.cs).cells = v.cs := rfl
    have e2 : (AV.agg u.cs).cells = u.cs := rfl
    simp only [numF, afind, akok_cs, if_true, e, e2, seq_cs, findF, afind_num v us (k + 1)]
    by_cases h : v = u
    · simp [h]
    · simp only [h, decide_false, if_false]
      cases findF v us with
      | none => rfl
      | some i => simp; omega
theorem numF_snoc (v : V) : ∀ (vs : List V) (k : Nat), numF k (vs ++ [v]) = numF k vs ++ [(.agg v.cs, .int .i64 ((k + vs.length : Nat) : Int))]
  | [], k => by simp [numF]
  | u :: us, k => by simp only [List.cons_append, numF, numF_snoc v us (k + 1), List.length_cons]; congr 6; omega
theorem ft_key (hK : 0 < K) (hT : Tens gw) (v : V) : FT (env K gw) NoW 45 [.agg v.cs] s (.agg (bareV v).cs) s := by
  refine FT.pure (fn := Tryd.f45) (F10_ok hK hT) mixed Tryd.func45 (by kernel_rfl) (by rfl) rfl rfl (by simp) rfl fun μ w => ?_
  obtain ⟨b, x, n⟩ := v
  cases b
  all_goals
    repeat' (first
      | refine WP.t ?_ | refine WP.k ?_ | refine WP.e ?_ | refine Qn ?_ | refine Qr ?_ | refine Qe ?_ | refine Bn ?_ | refine Br ?_ | refine Be ?_ | refine Bx (by decide) ?_
      | (refine RS.nl ?_; refine hk _ _ ?_; clear hk k)
      | ((first | refine RS.st fun A B hA hB => ?_ | refine RQ.st fun A B hA hB => ?_); simp [F10, pSym, pInt, V.cs, onW_t, onW_f, onV_s]; first | ((first | refine hA _ _ _ ?_ ?_ | refine hA _ _ _ ?_ (by first | exact .inl rfl | exact .inr (by decide)) ?_); (focus (simp [F10, pSym, pInt, V.cs] <;> omega)); clear hA hB A B) | (refine hB ?_; clear hA hB A B) | (refine onV_if ?_ ?_; (focus (first | omega | (refine ⟨?_, ?_⟩ <;> omega))); simp only [onV_s]; (first | refine hA _ _ _ ?_ ?_ | refine hA _ _ _ ?_ (by first | exact .inl rfl | exact .inr (by decide)) ?_); (focus (simp [F10, pSym, pInt, V.cs] <;> omega)); clear hA hB A B))
      | (refine RQ.nl ?_; refine hk _ _ ?_; clear hk k)
      | refine WP.sr fun k hk => ?_ | refine WP.r fun k hk => ?_
      | refine WP.sd _ rfl fun k hk => ?_ | refine WP.d _ rfl fun k hk => ?_
      | (refine WP.cc fun A B hA hB => ?_; simp [F10, pSym, pInt, V.cs, onB_t, onB_f]; first | (refine hA ?_; clear hA hB A B) | (refine hB ?_; clear hA hB A B) | (refine onB_if (fun h => hA ?_) (fun h => hB ?_) <;> clear hA hB A B))
      | refine WP.q ?_ | refine WP.b ?_)
    simp [ti25, bareV, V.cs]
noncomputable def X1 : Fns := V2.addP 45 pBare
theorem X1_ok (hK : 0 < K) (hT : Tens gw) : FOk (env K gw) X1 := by
  refine (V2_ok hK hT).addP ?_
  intro xs s r h
  unfold pBare at h
  split at h
  · obtain ⟨v, hv, rfl⟩ := Option.map_eq_some_iff.1 h
    rw [decV_eq hv]
    exact ft_key hK hT v
  · cases h
def numV : Option Nat → AV
  | some i => .tup [.int .i64 (i : Int), .bool true]
  | none => .tup [.int .i64 0, .bool false]
theorem ft_number (hK : 0 < K) (hT : Tens gw) {tid mid : Nat} {ty : TypeId} {c : List AV} (v : V) (vs : List V) (h1 : tid < s.nx) (h2 : s.get tid = some (.var ty (.map mid :: c))) (h3 : mid < s.nx) (h4 : s.get mid = some (.map (numF 0 vs))) :
    FT (env K gw) NoW 43 [.ptr tid 0, .agg v.cs] s (numV (findF (bareV v) vs)) s := by
  refine FT.pure (fn := Tryd.f43) (X1_ok hK hT) mixed Tryd.func43 (by kernel_rfl) (by rfl) rfl rfl (by simp) rfl fun μ w => ?_
  have n1 : ¬ tid = s.nx := by omega
  have n2 : ¬ mid = s.nx := by omega
  have hl : ∀ s2 : St, s2.get mid = some (.map (numF 0 vs)) → alookup (env K gw) s2 85 (.map mid) (.agg (bareV v).cs) true = some (numV (findF (bareV v) vs)) := fun s2 h => by
    simp only [alookup, miV, akok_cs, if_true, h, afind_num]
    cases findF (bareV v) vs <;> simp [numV]
  have hd : decV v.cs = some v := rfl
  have hlen : v.cs.length = 3 := rfl
  cases hf : findF (bareV v) vs with
  | none =>
    rw [hf] at hl
    simp only [numV] at hl
    repeat' (first
      | refine WP.t ?_ | refine WP.k ?_ | refine WP.e ?_ | refine Qn ?_ | refine Qr ?_ | refine Qe ?_ | refine Bn ?_ | refine Br ?_ | refine Be ?_ | refine Bx (by decide) ?_
      | (refine RS.nl ?_; refine hk _ _ ?_; clear hk k)
      | ((first | refine RS.st fun A B hA hB => ?_ | refine RQ.st fun A B hA hB => ?_); simp [X1, pBare, hd, h1, h2, h4, hl, n1, n2, anilCheck, hlen, onW_t, onW_f, onV_s]; first | ((first | refine hA _ _ _ ?_ ?_ | refine hA _ _ _ ?_ (by first | exact .inl rfl | exact .inr (by decide)) ?_); (focus (simp [X1, pBare, hd, h1, h2, h4, hl, n1, n2, anilCheck, hlen] <;> omega)); clear hA hB A B) | (refine hB ?_; clear hA hB A B) | (refine onV_if ?_ ?_; (focus (first | omega | (refine ⟨?_, ?_⟩ <;> omega))); simp only [onV_s]; (first | refine hA _ _ _ ?_ ?_ | refine hA _ _ _ ?_ (by first | exact .inl rfl | exact .inr (by decide)) ?_); (focus (simp [X1, pBare, hd, h1, h2, h4, hl, n1, n2, anilCheck, hlen] <;> omega)); clear hA hB A B))
      | (refine RQ.nl ?_; refine hk _ _ ?_; clear hk k)
      | refine WP.sr fun k hk => ?_ | refine WP.r fun k hk => ?_
      | refine WP.sd _ rfl fun k hk => ?_ | refine WP.d _ rfl fun k hk => ?_
      | (refine WP.cc fun A B hA hB => ?_; simp [X1, pBare, hd, h1, h2, h4, hl, n1, n2, anilCheck, hlen, onB_t, onB_f]; first | (refine hA ?_; clear hA hB A B) | (refine hB ?_; clear hA hB A B) | (refine onB_if (fun h => hA ?_) (fun h => hB ?_) <;> clear hA hB A B))
      | refine WP.q ?_ | refine WP.b ?_)
    simp [numV]
  | some i =>
    rw [hf] at hl
    simp only [numV] at hl
    repeat' (first
      | refine WP.t ?_ | refine WP.k ?_ | refine WP.e ?_ | refine Qn ?_ | refine Qr ?_ | refine Qe ?_ | refine Bn ?_ | refine Br ?_ | refine Be ?_ | refine Bx (by decide) ?_
      | (refine RS.nl ?_; refine hk _ _ ?_; clear hk k)
      | ((first | refine RS.st fun A B hA hB => ?_ | refine RQ.st fun A B hA hB => ?_); simp [X1, pBare, hd, h1, h2, h4, hl, n1, n2, anilCheck, hlen, onW_t, onW_f, onV_s]; first | ((first | refine hA _ _ _ ?_ ?_ | refine hA _ _ _ ?_ (by first | exact .inl rfl | exact .inr (by decide)) ?_); (focus (simp [X1, pBare, hd, h1, h2, h4, hl, n1, n2, anilCheck, hlen] <;> omega)); clear hA hB A B) | (refine hB ?_; clear hA hB A B) | (refine onV_if ?_ ?_; (focus (first | omega | (refine ⟨?_, ?_⟩ <;> omega))); simp only [onV_s]; (first | refine hA _ _ _ ?_ ?_ | refine hA _ _ _ ?_ (by first | exact .inl rfl | exact .inr (by decide)) ?_); (focus (simp [X1, pBare, hd, h1, h2, h4, hl, n1, n2, anilCheck, hlen] <;> omega)); clear hA hB A B))
      | (refine RQ.nl ?_; refine hk _ _ ?_; clear hk k)
      | refine WP.sr fun k hk => ?_ | refine WP.r fun k hk => ?_
      | refine WP.sd _ rfl fun k hk => ?_ | refine WP.d _ rfl fun k hk => ?_
      | (refine WP.cc fun A B hA hB => ?_; simp [X1, pBare, hd, h1, h2, h4, hl, n1, n2, anilCheck, hlen, onB_t, onB_f]; first | (refine hA ?_; clear hA hB A B) | (refine hB ?_; clear hA hB A B) | (refine onB_if (fun h => hA ?_) (fun h => hB ?_) <;> clear hA hB A B))
      | refine WP.q ?_ | refine WP.b ?_)
    simp [numV]
end
end Go.Am
namespace Go.Am
open Go.Proofs
section
variable {K : Nat} {gw : World} {s : St}
attribute [local simp] awanted xop zOf zrow aop ev T0 Slots.put Slots.set Slots.get awr WOk AV.may ofConst abinop aint isConst St.get_push St.get_put St.live AV.fit AV.cells AV.one fieldOf afieldAddr aload ofCells astore splice May eqres env_ti FinP FinZ FinW ares aresL ares1 Fns.addP Fns.add Fns.a0 Fns.a1 Fns.a2 Fns.a3 Fns.a4 abuiltin alenOk alen aindex elemOfT elemId abuildSlice afill chunks ard aappend isSS AV.isStr aminmax placesOf abuild afield aidx isStrD isStrDesc astrop aslice asliceOk abound arange anext aextract aunop aeq AV.ck avseq aveq aconv aconvert onB_t onB_f List.range_succ ti0 ti1 ti2 ti3 ti4 ti5 ti6 ti7 ti8 ti9 ti10 ti11 ti12 ti13 ti14 ti15 ti16 ti17 ti18 ti19 ti20 ti21 ti22 ti23 ti24 ti25 ti26 ti27 ti28 ti29 ti30 ti31 ti32 ti33 ti34 ti35 ti36 ti37 ti38 ti39 ti40 ti41 ti42 ti43 ti44 ti45 ti46 ti47 ti48 ti49 ti50 ti51 ti52 ti53 ti54 ti55 ti56 ti57 ti58 ti59 ti60 ti61 ti62 ti63 ti64 ti65 ti66 ti67 ti68 ti69 ti70 ti71 ti72 ti73 ti74 ti75 ti76 ti77 ti78 ti79 ti80 ti81 ti82 ti83 ti84 ti85 ti86 ti87 ti88 ti89 ti90 ti91 ti92 ti93 ti94 ti95 ti96 ti97 ti98 ti99 ti100 ti101 ti102 ti103 ti104 ti105 ti106 ti107 ti108 ti109 ti110 ti111 ti112 ti113 ti114 ti115 ti116 ti117 ti118 ti119 ti120 ti121 ti122 ti123 ti124 ti125 ti126 ti127 ti128 ti129 ti130 ti131 ti132 ti133 ti134 ti135 ti136 ti137 ti138 ti139 ti140 ti141 ti142 ti143 ti144 ti145 ti146 ti147
theorem below_cs (v : V) (n : Nat) : Below n (.agg v.cs) := by simp [V.cs]
theorem numF_mem : ∀ (vs : List V) (k : Nat) (x : AV × AV), x ∈ numF k vs → ∃ (v : V) (j : Int), x = (.agg v.cs, .int .i64 j)
  | [], k, x, h => by simp [numF] at h
  | u :: us, k, x, h => by
    simp only [numF, List.mem_cons] at h
    rcases h with rfl | h
    · exact ⟨_, _, rfl⟩
    · exact numF_mem us _ x h
theorem OBelow_num (n : Nat) (vs : List V) (v : V) (m : Int) : OBelow n (.map (numF 0 vs ++ [(.agg v.cs, .int .i64 m)])) := by
  refine .map _ fun i x hx => ?_
  have hm := List.mem_of_getElem? hx
  have : ∃ (v : V) (j : Int), x = (.agg v.cs, .int .i64 j) := by
    rcases List.mem_append.1 hm with h | h
    · exact numF_mem vs 0 x h
    · simp at h; exact ⟨v, m, h⟩
  obtain ⟨u, j, rfl⟩ := this
  exact ⟨below_cs _ _, .int _ _⟩
theorem ft_note (hK : 0 < K) (hT : Tens gw) {tid mid : Nat} {ty : TypeId} {c : List AV} (v : V) (n : Int) (vs : List V) (h1 : tid < s.nx) (h2 : s.get tid = some (.var ty (.map mid :: c))) (h3 : mid < s.nx) (h4 : s.get mid = some (.map (numF 0 vs)))
    (h5 : findF (bareV v) vs = none) :
    FT (env K gw) (fun i => i ∈ [mid]) 44 [.ptr tid 0, .agg v.cs, .int .i64 n] s (.tup []) (s.put mid (.map (numF 0 vs ++ [(.agg (bareV v).cs, .int .i64 n)]))) := by
  refine FT.own (fn := Tryd.f44) (X1_ok hK hT) mixed Tryd.func44 (by kernel_rfl) (by rfl) rfl rfl (by simp) rfl fun μ w => ?_
  have n1 : ¬ tid = s.nx := by omega
  have n2 : ¬ mid = s.nx := by omega
  have hl : ∀ s2 : St, s2.get mid = some (.map (numF 0 vs)) → amapup (env K gw) s2 85 (.map mid) (.agg (bareV v).cs) (.int .i64 n) = some (s2.put mid (.map (numF 0 vs ++ [(.agg (bareV v).cs, .int .i64 n)]))) := fun s2 h => by
    simp only [amapup, miV, akok_cs, if_true, h, afind_num, h5, Option.map_none]
  have hd : decV v.cs = some v := rfl
  have hlen : v.cs.length = 3 := rfl
  repeat' (first
    | refine WP.t ?_ | refine WP.k ?_ | refine WP.e ?_ | refine Qn ?_ | refine Qr ?_ | refine Qe ?_ | refine Bn ?_ | refine Br ?_ | refine Be ?_ | refine Bx (by decide) ?_
    | (refine RS.nl ?_; refine hk _ _ ?_; clear hk k)
    | ((first | refine RS.st fun A B hA hB => ?_ | refine RQ.st fun A B hA hB => ?_); simp [X1, pBare, hd, h1, h2, h3, h4, hl, n1, n2, anilCheck, hlen, onW_t, onW_f, onV_s]; first | ((first | refine hA _ _ _ ?_ ?_ | refine hA _ _ _ ?_ (by first | exact .inl rfl | exact .inr (by decide)) ?_); (focus (simp [X1, pBare, hd, h1, h2, h3, h4, hl, n1, n2, anilCheck, hlen] <;> omega)); clear hA hB A B) | (refine hB ?_; clear hA hB A B) | (refine onV_if ?_ ?_; (focus (first | omega | (refine ⟨?_, ?_⟩ <;> omega))); simp only [onV_s]; (first | refine hA _ _ _ ?_ ?_ | refine hA _ _ _ ?_ (by first | exact .inl rfl | exact .inr (by decide)) ?_); (focus (simp [X1, pBare, hd, h1, h2, h3, h4, hl, n1, n2, anilCheck, hlen] <;> omega)); clear hA hB A B))
    | (refine RQ.nl ?_; refine hk _ _ ?_; clear hk k)
    | (refine RW.nl ?_ ?_; (focus (first | exact .inl (by decide) | (refine .inr ?_; (simp [X1, pBare, hd, h1, h2, h3, h4, hl, n1, n2, anilCheck, hlen] <;> omega)))); refine hk _ _ ?_; clear hk k)
    | (refine RW.st ?_ fun A B hA hB => ?_; (focus (first | exact .inl (by decide) | (refine .inr ?_; (simp [X1, pBare, hd, h1, h2, h3, h4, hl, n1, n2, anilCheck, hlen] <;> omega)))); simp [X1, pBare, hd, h1, h2, h3, h4, hl, n1, n2, anilCheck, hlen, onW_t, onW_f, onV_s]; first | (refine hA _ _ _ ?_ ?_ ?_ ?_; (focus (simp [X1, pBare, hd, h1, h2, h3, h4, hl, n1, n2, anilCheck, hlen] <;> omega)); (focus (first | exact .inl (by decide) | exact .inr (.inl rfl) | exact .inr (.inr rfl))); (focus (first | exact .inl (by decide) | exact .inr (.inl (by decide)) | (refine .inr (.inr fun s2 hs2 => ?_); have hs2n := hs2.nx; simp only [Keep_cons, Keep_nil] at hs2; simp [X1, pBare, hd, h1, h2, h3, h4, hl, n1, n2, anilCheck, hlen, hs2, hs2n]; done))); clear hA hB A B) | (refine hB ?_; clear hA hB A B))
    | refine WP.sr fun k hk => ?_ | refine WP.r fun k hk => ?_
    | (refine WP.swK [] ?_ fun k hk => ?_; (focus (decide))) | (refine WP.wK [] ?_ fun k hk => ?_; (focus (decide))) | refine WP.sd _ rfl fun k hk => ?_ | refine WP.d _ rfl fun k hk => ?_
    | (refine WP.cc fun A B hA hB => ?_; simp [X1, pBare, hd, h1, h2, h3, h4, hl, n1, n2, anilCheck, hlen, onB_t, onB_f]; first | (refine hA ?_; clear hA hB A B) | (refine hB ?_; clear hA hB A B) | (refine onB_if (fun h => hA ?_) (fun h => hB ?_) <;> clear hA hB A B))
    | refine WP.q ?_ | refine WP.b ?_)
  simp [FinW]
  intro h
  refine ⟨fun id hi => ?_, fun id hi hw o ho => ?_⟩
  · have : ¬ id = s.nx := by omega
    simp [this]
  · by_cases e : id = mid
    · simp [e] at ho
      subst ho
      exact OBelow_num _ _ _ _
    · rcases hw with hw | hw
      · exact absurd hw e
      · omega
theorem ft_Find (hK : 0 < K) (hT : Tens gw) {tid mid : Nat} {ty : TypeId} {c : List AV} (v : V) (vs : List V) (h1 : tid < s.nx) (h2 : s.get tid = some (.var ty (.map mid :: c))) (h3 : mid < s.nx) (h4 : s.get mid = some (.map (numF 0 vs)))
    {F : Fns} (hF : FOk (env K gw) F) (hn : ∀ s2, s2.get tid = some (.var ty (.map mid :: c)) → s2.get mid = some (.map (numF 0 vs)) → tid < s2.nx → mid < s2.nx → F 43 [.ptr tid 0, .agg v.cs] s2 = some (numV (findF (bareV v) vs), s2, [])) :
    FT (env K gw) NoW 52 [.ptr tid 0, .agg v.cs] s (numV (findF (bareV v) vs)) s := by
  refine FT.pure (fn := Tryd.f52) hF mixed Tryd.func52 (by kernel_rfl) (by rfl) rfl rfl (by simp) rfl fun μ w => ?_
  have n1 : ¬ tid = s.nx := by omega
  have n2 : ¬ mid = s.nx := by omega
  have hlen : List.take 3 v.cs = v.cs := rfl
  have q1 : tid ≤ s.nx := by omega
  have q2 : mid ≤ s.nx := by omega
  cases hf : findF (bareV v) vs with
  | none =>
    rw [hf] at hn
    simp only [numV] at hn
    have hn1 := hn (s.push (.var 25 v.cs)) (by simp [St.get_push, n1, h2]) (by simp [St.get_push, n2, h4]) (by simp; omega) (by simp; omega)
    repeat' (first
      | refine WP.t ?_ | refine WP.k ?_ | refine WP.e ?_ | refine Qn ?_ | refine Qr ?_ | refine Qe ?_ | refine Bn ?_ | refine Br ?_ | refine Be ?_ | refine Bx (by decide) ?_
      | (refine RS.nl ?_; refine hk _ _ ?_; clear hk k)
      | ((first | refine RS.st fun A B hA hB => ?_ | refine RQ.st fun A B hA hB => ?_); simp [hn1, h1, h2, h3, h4, n1, n2, q1, q2, anilCheck, hlen, onW_t, onW_f, onV_s]; first | ((first | refine hA _ _ _ ?_ ?_ | refine hA _ _ _ ?_ (by first | exact .inl rfl | exact .inr (by decide)) ?_); (focus (simp [hn1, h1, h2, h3, h4, n1, n2, q1, q2, anilCheck, hlen] <;> omega)); clear hA hB A B) | (refine hB ?_; clear hA hB A B) | (refine onV_if ?_ ?_; (focus (first | omega | (refine ⟨?_, ?_⟩ <;> omega))); simp only [onV_s]; (first | refine hA _ _ _ ?_ ?_ | refine hA _ _ _ ?_ (by first | exact .inl rfl | exact .inr (by decide)) ?_); (focus (simp [hn1, h1, h2, h3, h4, n1, n2, q1, q2, anilCheck, hlen] <;> omega)); clear hA hB A B))
      | (refine RQ.nl ?_; refine hk _ _ ?_; clear hk k)
      | refine WP.sr fun k hk => ?_ | refine WP.r fun k hk => ?_
      | refine WP.sd _ rfl fun k hk => ?_ | refine WP.d _ rfl fun k hk => ?_
      | (refine WP.cc fun A B hA hB => ?_; simp [hn1, h1, h2, h3, h4, n1, n2, q1, q2, anilCheck, hlen, onB_t, onB_f]; first | (refine hA ?_; clear hA hB A B) | (refine hB ?_; clear hA hB A B) | (refine onB_if (fun h => hA ?_) (fun h => hB ?_) <;> clear hA hB A B))
      | refine WP.q ?_ | refine WP.b ?_)
    simp [numV]
  | some i =>
    rw [hf] at hn
    simp only [numV] at hn
    have hn1 := hn (s.push (.var 25 v.cs)) (by simp [St.get_push, n1, h2]) (by simp [St.get_push, n2, h4]) (by simp; omega) (by simp; omega)
    repeat' (first
      | refine WP.t ?_ | refine WP.k ?_ | refine WP.e ?_ | refine Qn ?_ | refine Qr ?_ | refine Qe ?_ | refine Bn ?_ | refine Br ?_ | refine Be ?_ | refine Bx (by decide) ?_
      | (refine RS.nl ?_; refine hk _ _ ?_; clear hk k)
      | ((first | refine RS.st fun A B hA hB => ?_ | refine RQ.st fun A B hA hB => ?_); simp [hn1, h1, h2, h3, h4, n1, n2, q1, q2, anilCheck, hlen, onW_t, onW_f, onV_s]; first | ((first | refine hA _ _ _ ?_ ?_ | refine hA _ _ _ ?_ (by first | exact .inl rfl | exact .inr (by decide)) ?_); (focus (simp [hn1, h1, h2, h3, h4, n1, n2, q1, q2, anilCheck, hlen] <;> omega)); clear hA hB A B) | (refine hB ?_; clear hA hB A B) | (refine onV_if ?_ ?_; (focus (first | omega | (refine ⟨?_, ?_⟩ <;> omega))); simp only [onV_s]; (first | refine hA _ _ _ ?_ ?_ | refine hA _ _ _ ?_ (by first | exact .inl rfl | exact .inr (by decide)) ?_); (focus (simp [hn1, h1, h2, h3, h4, n1, n2, q1, q2, anilCheck, hlen] <;> omega)); clear hA hB A B))
      | (refine RQ.nl ?_; refine hk _ _ ?_; clear hk k)
      | refine WP.sr fun k hk => ?_ | refine WP.r fun k hk => ?_
      | refine WP.sd _ rfl fun k hk => ?_ | refine WP.d _ rfl fun k hk => ?_
      | (refine WP.cc fun A B hA hB => ?_; simp [hn1, h1, h2, h3, h4, n1, n2, q1, q2, anilCheck, hlen, onB_t, onB_f]; first | (refine hA ?_; clear hA hB A B) | (refine hB ?_; clear hA hB A B) | (refine onB_if (fun h => hA ?_) (fun h => hB ?_) <;> clear hA hB A B))
      | refine WP.q ?_ | refine WP.b ?_)
    simp [numV]
/-- A table: its var, its map, its values' row (if any value is there): these and no others are in the list. -/
def Tab (s : St) (l : List Nat) (tid : Nat) (vs : List V) : Prop :=
  ∃ mid, tid ∈ l ∧ mid ∈ l ∧ tid ≠ mid ∧ (∀ i ∈ l, i < s.nx) ∧ s.get mid = some (.map (numF 0 vs)) ∧
    ((vs = [] ∧ s.get tid = some (.var 89 [.map mid, .nsl])) ∨
     (vs ≠ [] ∧ ∃ rd, rd ∈ l ∧ rd ≠ tid ∧ rd ≠ mid ∧ s.get tid = some (.var 89 [.map mid, .ls rd 0 vs.length]) ∧ s.get rd = some (.row 3 (true, 25) (vs.map V.cs))))
theorem Tab.keep {s1 : St} {l : List Nat} {tid : Nat} {vs : List V} (h : Tab s l tid vs) (hn : s.nx ≤ s1.nx) (hg : ∀ i ∈ l, s1.get i = s.get i) : Tab s1 l tid vs := by
  obtain ⟨mid, h1, h2, h3, h4, h5, h6⟩ := h
  refine ⟨mid, h1, h2, h3, fun i hi => Nat.lt_of_lt_of_le (h4 i hi) hn, by rw [hg _ h2]; exact h5, ?_⟩
  rcases h6 with ⟨a, b⟩ | ⟨a, rd, b, c, d, e, f⟩
  · exact .inl ⟨a, by rw [hg _ h1]; exact b⟩
  · exact .inr ⟨a, rd, b, c, d, by rw [hg _ h1]; exact e, by rw [hg _ b]; exact f⟩
def stNew (s : St) : St := (s.push (.map [])).push (.var 89 [.map s.nx, .nsl])
theorem ft_New : FT (env K gw) NoW 30 [] s (.ptr (s.nx + 1) 0) (stNew s) := by
  refine FT.own (fn := Tryd.f30) F0_ok mixed Tryd.func30 (by kernel_rfl) (by rfl) rfl rfl (by simp) rfl fun μ w => ?_
  repeat' (first
    | refine WP.t ?_ | refine WP.k ?_ | refine WP.e ?_ | refine Qn ?_ | refine Qr ?_ | refine Qe ?_ | refine Bn ?_ | refine Br ?_ | refine Be ?_ | refine Bx (by decide) ?_
    | (refine RS.nl ?_; refine hk _ _ ?_; clear hk k)
    | ((first | refine RS.st fun A B hA hB => ?_ | refine RQ.st fun A B hA hB => ?_); simp [amake0, onW_t, onW_f, onV_s]; first | ((first | refine hA _ _ _ ?_ ?_ | refine hA _ _ _ ?_ (by first | exact .inl rfl | exact .inr (by decide)) ?_); (focus (simp [amake0] <;> omega)); clear hA hB A B) | (refine hB ?_; clear hA hB A B) | (refine onV_if ?_ ?_; (focus (first | omega | (refine ⟨?_, ?_⟩ <;> omega))); simp only [onV_s]; (first | refine hA _ _ _ ?_ ?_ | refine hA _ _ _ ?_ (by first | exact .inl rfl | exact .inr (by decide)) ?_); (focus (simp [amake0] <;> omega)); clear hA hB A B))
    | (refine RQ.nl ?_; refine hk _ _ ?_; clear hk k)
    | refine WP.sr fun k hk => ?_ | refine WP.r fun k hk => ?_
    | refine WP.sd _ rfl fun k hk => ?_ | refine WP.d _ rfl fun k hk => ?_
    | (refine WP.cc fun A B hA hB => ?_; simp [amake0, onB_t, onB_f]; first | (refine hA ?_; clear hA hB A B) | (refine hB ?_; clear hA hB A B) | (refine onB_if (fun h => hA ?_) (fun h => hB ?_) <;> clear hA hB A B))
    | refine WP.q ?_ | refine WP.b ?_)
  simp [FinW, stNew]
  intro h id hi hw o ho
  by_cases e1 : id = s.nx + 1
  · simp [e1] at ho
    subst ho
    refine .var _ _ fun i x hx => ?_
    match i, hx with
    | 0, hx => simp at hx; subst hx; exact .map _ (by omega)
    | 1, hx => simp at hx; subst hx; exact .nsl
  · by_cases e2 : id = s.nx
    · simp [e2] at ho
      subst ho
      exact .map _ fun i x hx => by simp at hx
    · omega
theorem tab_New : Tab (stNew s) [s.nx + 1, s.nx] (s.nx + 1) [] := by
  refine ⟨s.nx, by simp, by simp, by omega, by simp [stNew], by simp [stNew, St.get_push, numF], .inl ⟨rfl, by simp [stNew, St.get_push]⟩⟩
end
end Go.Am
namespace Go.Am
open Go.Proofs
section
variable {K : Nat} {gw : World} {s : St}
attribute [local simp] awanted xop zOf zrow aop ev T0 Slots.put Slots.set Slots.get awr WOk AV.may ofConst abinop aint isConst St.get_push St.get_put St.live AV.fit AV.cells AV.one fieldOf afieldAddr aload ofCells astore splice May eqres env_ti FinP FinZ FinW ares aresL ares1 Fns.addP Fns.add Fns.a0 Fns.a1 Fns.a2 Fns.a3 Fns.a4 abuiltin alenOk alen aindex elemOfT elemId abuildSlice afill chunks ard aappend isSS AV.isStr aminmax placesOf abuild afield aidx isStrD isStrDesc astrop aslice asliceOk abound arange anext aextract aunop aeq AV.ck avseq aveq aconv aconvert onB_t onB_f List.range_succ ti0 ti1 ti2 ti3 ti4 ti5 ti6 ti7 ti8 ti9 ti10 ti11 ti12 ti13 ti14 ti15 ti16 ti17 ti18 ti19 ti20 ti21 ti22 ti23 ti24 ti25 ti26 ti27 ti28 ti29 ti30 ti31 ti32 ti33 ti34 ti35 ti36 ti37 ti38 ti39 ti40 ti41 ti42 ti43 ti44 ti45 ti46 ti47 ti48 ti49 ti50 ti51 ti52 ti53 ti54 ti55 ti56 ti57 ti58 ti59 ti60 ti61 ti62 ti63 ti64 ti65 ti66 ti67 ti68 ti69 ti70 ti71 ti72 ti73 ti74 ti75 ti76 ti77 ti78 ti79 ti80 ti81 ti82 ti83 ti84 ti85 ti86 ti87 ti88 ti89 ti90 ti91 ti92 ti93 ti94 ti95 ti96 ti97 ti98 ti99 ti100 ti101 ti102 ti103 ti104 ti105 ti106 ti107 ti108 ti109 ti110 ti111 ti112 ti113 ti114 ti115 ti116 ti117 ti118 ti119 ti120 ti121 ti122 ti123 ti124 ti125 ti126 ti127 ti128 ti129 ti130 ti131 ti132 ti133 ti134 ti135 ti136 ti137 ti138 ti139 ti140 ti141 ti142 ti143 ti144 ti145 ti146 ti147
theorem OBelow_var {n : Nat} {ty : TypeId} {cs : List AV} (h : ∀ x ∈ cs, Below n x) : OBelow n (.var ty cs) := .var _ _ fun i x hx => h x (List.mem_of_getElem? hx)
theorem OBelow_row {n : Nat} {sz : Nat} {wr : RK} {es : List (List AV)} (h : ∀ e ∈ es, ∀ x ∈ e, Below n x) : OBelow n (.row sz wr es) := .row _ _ _ fun i j x hx => by
  simp only [get2] at hx
  obtain ⟨e, he, hx⟩ := Option.bind_eq_some_iff.1 hx
  exact h e (List.mem_of_getElem? he) x (List.mem_of_getElem? hx)
theorem OBelow_vcs (n : Nat) (ty : TypeId) (v : V) : OBelow n (.var ty v.cs) := OBelow_var fun x hx => by
  simp only [V.cs, List.mem_cons, List.mem_nil_iff, or_false] at hx
  rcases hx with rfl | rfl | rfl
  · exact .bool _
  · exact .str _
  · exact .int _ _
theorem OBelow_rowV (n : Nat) (wr : RK) (vs : List V) : OBelow n (.row 3 wr (vs.map V.cs)) := OBelow_row fun e he x hx => by
  obtain ⟨v, _, rfl⟩ := List.mem_map.1 he
  simp only [V.cs, List.mem_cons, List.mem_nil_iff, or_false] at hx
  rcases hx with rfl | rfl | rfl
  · exact .bool _
  · exact .str _
  · exact .int _ _
theorem ft_PutF {tid mid : Nat} {c : List AV} (v : V) (vs : List V) (i : Nat) (h1 : tid < s.nx) (h2 : s.get tid = some (.var 89 (.map mid :: c))) (h3 : mid < s.nx) (h4 : s.get mid = some (.map (numF 0 vs)))
    {F : Fns} (hF : FOk (env K gw) F) (hf : findF (bareV v) vs = some i)
    (hn : ∀ s2, s2.get tid = some (.var 89 (.map mid :: c)) → s2.get mid = some (.map (numF 0 vs)) → tid < s2.nx → mid < s2.nx → F 43 [.ptr tid 0, .agg v.cs] s2 = some (numV (findF (bareV v) vs), s2, [])) :
    FT (env K gw) NoW 31 [.ptr tid 0, .agg v.cs] s (.int .i64 (i : Int)) s := by
  refine FT.pure (fn := Tryd.f31) hF mixed Tryd.func31 (by kernel_rfl) (by rfl) rfl rfl (by simp) rfl fun μ w => ?_
  have n1 : ¬ tid = s.nx := by omega
  have n2 : ¬ mid = s.nx := by omega
  have hlen : List.take 3 v.cs = v.cs := rfl
  rw [hf] at hn
  simp only [numV] at hn
  have hn1 := hn (s.push (.var 25 v.cs)) (by simp [St.get_push, n1, h2]) (by simp [St.get_push, n2, h4]) (by simp; omega) (by simp; omega)
  repeat' (first
    | refine WP.t ?_ | refine WP.k ?_ | refine WP.e ?_ | refine Qn ?_ | refine Qr ?_ | refine Qe ?_ | refine Bn ?_ | refine Br ?_ | refine Be ?_ | refine Bx (by decide) ?_
    | (refine RS.nl ?_; refine hk _ _ ?_; clear hk k)
    | ((first | refine RS.st fun A B hA hB => ?_ | refine RQ.st fun A B hA hB => ?_); simp [hn1, h1, h2, h3, h4, n1, n2, anilCheck, hlen, onW_t, onW_f, onV_s]; first | ((first | refine hA _ _ _ ?_ ?_ | refine hA _ _ _ ?_ (by first | exact .inl rfl | exact .inr (by decide)) ?_); (focus (simp [hn1, h1, h2, h3, h4, n1, n2, anilCheck, hlen] <;> omega)); clear hA hB A B) | (refine hB ?_; clear hA hB A B) | (refine onV_if ?_ ?_; (focus (first | omega | (refine ⟨?_, ?_⟩ <;> omega))); simp only [onV_s]; (first | refine hA _ _ _ ?_ ?_ | refine hA _ _ _ ?_ (by first | exact .inl rfl | exact .inr (by decide)) ?_); (focus (simp [hn1, h1, h2, h3, h4, n1, n2, anilCheck, hlen] <;> omega)); clear hA hB A B))
    | (refine RQ.nl ?_; refine hk _ _ ?_; clear hk k)
    | refine WP.sr fun k hk => ?_ | refine WP.r fun k hk => ?_
    | refine WP.sd _ rfl fun k hk => ?_ | refine WP.d _ rfl fun k hk => ?_
    | (refine WP.cc fun A B hA hB => ?_; simp [hn1, h1, h2, h3, h4, n1, n2, anilCheck, hlen, onB_t, onB_f]; first | (refine hA ?_; clear hA hB A B) | (refine hB ?_; clear hA hB A B) | (refine onB_if (fun h => hA ?_) (fun h => hB ?_) <;> clear hA hB A B))
    | refine WP.q ?_ | refine WP.b ?_)
  simp
theorem ft_PutA {tid mid : Nat} (v : V) (h1 : tid < s.nx) (h2 : s.get tid = some (.var 89 [.map mid, .nsl])) (h3 : mid < s.nx) (h4 : s.get mid = some (.map [])) (h5 : tid ≠ mid)
    {F : Fns} (hF : FOk (env K gw) F)
    (hn : ∀ s2, s2.get tid = some (.var 89 [.map mid, .nsl]) → s2.get mid = some (.map []) → tid < s2.nx → mid < s2.nx → F 43 [.ptr tid 0, .agg v.cs] s2 = some (.tup [.int .i64 0, .bool false], s2, []))
    (ht : ∀ s2, s2.get tid = some (.var 89 [.map mid, .nsl]) → s2.get mid = some (.map []) → tid < s2.nx → mid < s2.nx → F 44 [.ptr tid 0, .agg v.cs, .int .i64 0] s2 = some (.tup [], s2.put mid (.map [(.agg (bareV v).cs, .int .i64 0)]), [mid]))
    (hky : ∀ s2, F 45 [.agg v.cs] s2 = some (.agg (bareV v).cs, s2, [])) :
    FT (env K gw) (fun i => i ∈ [tid, mid]) 31 [.ptr tid 0, .agg v.cs] s (.int .i64 0)
      ((((s.push (.var 25 v.cs)).put mid (.map [(.agg (bareV v).cs, .int .i64 0)])).push (.row 3 (true, 25) [(bareV v).cs])).put tid (.var 89 [.map mid, .ls (s.nx + 1) 0 1])) := by
  refine FT.own (fn := Tryd.f31) hF mixed Tryd.func31 (by kernel_rfl) (by rfl) rfl rfl (by simp) rfl fun μ w => ?_
  have n1 : ¬ tid = s.nx := by omega
  have n2 : ¬ mid = s.nx := by omega
  have n3 : ¬ tid = s.nx + 1 := by omega
  have n4 : ¬ mid = s.nx + 1 := by omega
  have n5 : ¬ mid = tid := fun h => h5 h.symm
  have m1 : ¬ s.nx = tid := by omega
  have m2 : ¬ s.nx = mid := by omega
  have m3 : ¬ s.nx + 1 = tid := by omega
  have m4 : ¬ s.nx + 1 = mid := by omega
  have hlen : List.take 3 v.cs = v.cs := rfl
  have hlb : (bareV v).cs.length = 3 := rfl
  have hlo : ((bareV v).cs.all AV.one) = true := rfl
  have hn1 := hn (s.push (.var 25 v.cs)) (by simp [St.get_push, n1, h2]) (by simp [St.get_push, n2, h4]) (by simp; omega) (by simp; omega)
  have ht1 := ht (s.push (.var 25 v.cs)) (by simp [St.get_push, n1, h2]) (by simp [St.get_push, n2, h4]) (by simp; omega) (by simp; omega)
  have hlc : List.take 3 (bareV v).cs = (bareV v).cs := rfl
  have hme : ∀ x, (x ∈ (bareV v).cs) = (x = .bool (bareV v).b ∨ x = .str (bareV v).s ∨ x = .int .i64 (bareV v).n) := fun x => by simp [V.cs]
  repeat' (first
    | refine WP.t ?_ | refine WP.k ?_ | refine WP.e ?_ | refine Qn ?_ | refine Qr ?_ | refine Qe ?_ | refine Bn ?_ | refine Br ?_ | refine Be ?_ | refine Bx (by decide) ?_
    | (refine RS.nl ?_; refine hk _ _ ?_; clear hk k)
    | ((first | refine RS.st fun A B hA hB => ?_ | refine RQ.st fun A B hA hB => ?_); simp [hlc, hme, hn1, ht1, hky, h1, h2, h3, h4, h5, n1, n2, n3, n4, n5, m1, m2, m3, m4, anilCheck, hlen, hlb, hlo, onW_t, onW_f, onV_s]; first | ((first | refine hA _ _ _ ?_ ?_ | refine hA _ _ _ ?_ (by first | exact .inl rfl | exact .inr (by decide)) ?_); (focus (simp [hlc, hme, hn1, ht1, hky, h1, h2, h3, h4, h5, n1, n2, n3, n4, n5, m1, m2, m3, m4, anilCheck, hlen, hlb, hlo] <;> omega)); clear hA hB A B) | (refine hB ?_; clear hA hB A B) | (refine onV_if ?_ ?_; (focus (first | omega | (refine ⟨?_, ?_⟩ <;> omega))); simp only [onV_s]; (first | refine hA _ _ _ ?_ ?_ | refine hA _ _ _ ?_ (by first | exact .inl rfl | exact .inr (by decide)) ?_); (focus (simp [hlc, hme, hn1, ht1, hky, h1, h2, h3, h4, h5, n1, n2, n3, n4, n5, m1, m2, m3, m4, anilCheck, hlen, hlb, hlo] <;> omega)); clear hA hB A B))
    | (refine RQ.nl ?_; refine hk _ _ ?_; clear hk k)
    | (refine RW.nl ?_ ?_; (focus (first | exact .inl (by decide) | (refine .inr ?_; (simp [hlc, hme, hn1, ht1, hky, h1, h2, h3, h4, h5, n1, n2, n3, n4, n5, m1, m2, m3, m4, anilCheck, hlen, hlb, hlo] <;> omega)))); refine hk _ _ ?_; clear hk k)
    | (refine RW.st ?_ fun A B hA hB => ?_; (focus (first | exact .inl (by decide) | (refine .inr ?_; (simp [hlc, hme, hn1, ht1, hky, h1, h2, h3, h4, h5, n1, n2, n3, n4, n5, m1, m2, m3, m4, anilCheck, hlen, hlb, hlo] <;> omega)))); simp [hlc, hme, hn1, ht1, hky, h1, h2, h3, h4, h5, n1, n2, n3, n4, n5, m1, m2, m3, m4, anilCheck, hlen, hlb, hlo, onW_t, onW_f, onV_s]; first | (refine hA _ _ _ ?_ ?_ ?_ ?_; (focus (simp [hlc, hme, hn1, ht1, hky, h1, h2, h3, h4, h5, n1, n2, n3, n4, n5, m1, m2, m3, m4, anilCheck, hlen, hlb, hlo] <;> omega)); (focus (first | exact .inl (by decide) | exact .inr (.inl rfl) | exact .inr (.inr rfl))); (focus (first | exact .inl (by decide) | exact .inr (.inl (by decide)) | (refine .inr (.inr fun s2 hs2 => ?_); have hs2n := hs2.nx; simp only [Keep_cons, Keep_nil] at hs2; simp [hlc, hme, hn1, ht1, hky, h1, h2, h3, h4, h5, n1, n2, n3, n4, n5, m1, m2, m3, m4, anilCheck, hlen, hlb, hlo, hs2, hs2n]; done))); clear hA hB A B) | (refine hB ?_; clear hA hB A B))
    | refine WP.sr fun k hk => ?_ | refine WP.r fun k hk => ?_
    | (refine WP.swK [s.nx, tid, mid] ?_ fun k hk => ?_; (focus (decide))) | (refine WP.wK [s.nx, tid, mid] ?_ fun k hk => ?_; (focus (decide))) | refine WP.sd _ rfl fun k hk => ?_ | refine WP.d _ rfl fun k hk => ?_
    | (refine WP.cc fun A B hA hB => ?_; simp [hlc, hme, hn1, ht1, hky, h1, h2, h3, h4, h5, n1, n2, n3, n4, n5, m1, m2, m3, m4, anilCheck, hlen, hlb, hlo, onB_t, onB_f]; first | (refine hA ?_; clear hA hB A B) | (refine hB ?_; clear hA hB A B) | (refine onB_if (fun h => hA ?_) (fun h => hB ?_) <;> clear hA hB A B))
    | refine WP.q ?_ | refine WP.b ?_)
  have w0 : IntKind.i64.wrap 0 = 0 := by decide
  simp [FinW, w0]
  intro h id hi hw o ho
  by_cases e1 : id = tid
  · simp [e1] at ho
    subst ho
    refine OBelow_var fun x hx => ?_
    simp only [List.mem_cons, List.mem_nil_iff, or_false] at hx
    rcases hx with rfl | rfl
    · exact .map _ (by omega)
    · exact .ls _ _ _ (by omega)
  by_cases e2 : id = s.nx + 1
  · simp [e1, e2, m3] at ho
    subst ho
    exact OBelow_rowV _ _ [bareV v]
  by_cases e3 : id = mid
  · simp [e1, e2, e3, n5, n4] at ho
    subst ho
    exact OBelow_num _ [] _ _
  by_cases e4 : id = s.nx
  · simp [e1, e2, e3, e4, m1, m2] at ho
    subst ho
    exact OBelow_vcs _ _ _
  · rcases hw with (hw | hw) | hw
    · exact absurd hw e1
    · exact absurd hw e3
    · omega
theorem ft_PutB {tid mid rd : Nat} (v : V) (vs : List V) (h1 : tid < s.nx) (h2 : s.get tid = some (.var 89 [.map mid, .ls rd 0 vs.length])) (h3 : mid < s.nx) (h4 : s.get mid = some (.map (numF 0 vs))) (h5 : tid ≠ mid)
    (h6 : rd < s.nx) (h7 : s.get rd = some (.row 3 (true, 25) (vs.map V.cs))) (h8 : rd ≠ tid) (h9 : rd ≠ mid) (hl : vs.length < 1073741824)
    {F : Fns} (hF : FOk (env K gw) F)
    (hn : ∀ s2, s2.get tid = some (.var 89 [.map mid, .ls rd 0 vs.length]) → s2.get mid = some (.map (numF 0 vs)) → tid < s2.nx → mid < s2.nx → F 43 [.ptr tid 0, .agg v.cs] s2 = some (.tup [.int .i64 0, .bool false], s2, []))
    (ht : ∀ s2, s2.get tid = some (.var 89 [.map mid, .ls rd 0 vs.length]) → s2.get mid = some (.map (numF 0 vs)) → tid < s2.nx → mid < s2.nx → F 44 [.ptr tid 0, .agg v.cs, .int .i64 vs.length] s2 = some (.tup [], s2.put mid (.map (numF 0 vs ++ [(.agg (bareV v).cs, .int .i64 vs.length)])), [mid]))
    (hky : ∀ s2, F 45 [.agg v.cs] s2 = some (.agg (bareV v).cs, s2, [])) :
    FT (env K gw) (fun i => i ∈ [tid, mid, rd]) 31 [.ptr tid 0, .agg v.cs] s (.int .i64 vs.length)
      (((((s.push (.var 25 v.cs)).put mid (.map (numF 0 vs ++ [(.agg (bareV v).cs, .int .i64 vs.length)]))).drop rd).push (.row 3 (true, 25) (vs.map V.cs ++ [(bareV v).cs]))).put tid (.var 89 [.map mid, .ls (s.nx + 1) 0 (vs.length + 1)])) := by
  refine FT.own (fn := Tryd.f31) hF mixed Tryd.func31 (by kernel_rfl) (by rfl) rfl rfl (by simp) rfl fun μ w => ?_
  have n1 : ¬ tid = s.nx := by omega
  have n2 : ¬ mid = s.nx := by omega
  have n3 : ¬ tid = s.nx + 1 := by omega
  have n4 : ¬ mid = s.nx + 1 := by omega
  have n5 : ¬ mid = tid := fun h => h5 h.symm
  have n6 : ¬ rd = s.nx := by omega
  have m1 : ¬ s.nx = tid := by omega
  have m2 : ¬ s.nx = mid := by omega
  have m3 : ¬ s.nx + 1 = tid := by omega
  have m4 : ¬ s.nx + 1 = mid := by omega
  have m5 : ¬ s.nx = rd := by omega
  have m6 : ¬ tid = rd := fun h => h8 h.symm
  have m7 : ¬ mid = rd := fun h => h9 h.symm
  have hby : (vs.length + 1) * 32 ≤ 140737488355328 := by omega
  have hlen : List.take 3 v.cs = v.cs := rfl
  have hlb : (bareV v).cs.length = 3 := rfl
  have hlo : ((bareV v).cs.all AV.one) = true := rfl
  have hlc : List.take 3 (bareV v).cs = (bareV v).cs := rfl
  have hme : ∀ x, (x ∈ (bareV v).cs) = (x = .bool (bareV v).b ∨ x = .str (bareV v).s ∨ x = .int .i64 (bareV v).n) := fun x => by simp [V.cs]
  have hw : IntKind.i64.wrap ((vs.length : Int) + 1 - 1) = (vs.length : Int) := by
    rw [show ((vs.length : Int) + 1 - 1) = (vs.length : Int) by omega]
    exact wrap64 (by omega) (by omega)
  have hn1 := hn (s.push (.var 25 v.cs)) (by simp [St.get_push, n1, h2]) (by simp [St.get_push, n2, h4]) (by simp; omega) (by simp; omega)
  have ht1 := ht (s.push (.var 25 v.cs)) (by simp [St.get_push, n1, h2]) (by simp [St.get_push, n2, h4]) (by simp; omega) (by simp; omega)
  repeat' (first
    | refine WP.t ?_ | refine WP.k ?_ | refine WP.e ?_ | refine Qn ?_ | refine Qr ?_ | refine Qe ?_ | refine Bn ?_ | refine Br ?_ | refine Be ?_ | refine Bx (by decide) ?_
    | (refine RS.nl ?_; refine hk _ _ ?_; clear hk k)
    | ((first | refine RS.st fun A B hA hB => ?_ | refine RQ.st fun A B hA hB => ?_); simp [hlc, hme, hn1, ht1, hky, h1, h2, h3, h4, h5, h6, h7, h8, h9, hw, hby, n1, n2, n3, n4, n5, n6, m1, m2, m3, m4, m5, m6, m7, anilCheck, hlen, hlb, hlo, St.get_drop, onW_t, onW_f, onV_s]; first | ((first | refine hA _ _ _ ?_ ?_ | refine hA _ _ _ ?_ (by first | exact .inl rfl | exact .inr (by decide)) ?_); (focus (simp [hlc, hme, hn1, ht1, hky, h1, h2, h3, h4, h5, h6, h7, h8, h9, hw, hby, n1, n2, n3, n4, n5, n6, m1, m2, m3, m4, m5, m6, m7, anilCheck, hlen, hlb, hlo, St.get_drop] <;> omega)); clear hA hB A B) | (refine hB ?_; clear hA hB A B) | (refine onV_if ?_ ?_; (focus (first | omega | (refine ⟨?_, ?_⟩ <;> omega))); simp only [onV_s]; (first | refine hA _ _ _ ?_ ?_ | refine hA _ _ _ ?_ (by first | exact .inl rfl | exact .inr (by decide)) ?_); (focus (simp [hlc, hme, hn1, ht1, hky, h1, h2, h3, h4, h5, h6, h7, h8, h9, hw, hby, n1, n2, n3, n4, n5, n6, m1, m2, m3, m4, m5, m6, m7, anilCheck, hlen, hlb, hlo, St.get_drop] <;> omega)); clear hA hB A B))
    | (refine RQ.nl ?_; refine hk _ _ ?_; clear hk k)
    | (refine RW.nl ?_ ?_; (focus (first | exact .inl (by decide) | (refine .inr ?_; (simp [hlc, hme, hn1, ht1, hky, h1, h2, h3, h4, h5, h6, h7, h8, h9, hw, hby, n1, n2, n3, n4, n5, n6, m1, m2, m3, m4, m5, m6, m7, anilCheck, hlen, hlb, hlo, St.get_drop] <;> omega)))); refine hk _ _ ?_; clear hk k)
    | (refine RW.st ?_ fun A B hA hB => ?_; (focus (first | exact .inl (by decide) | (refine .inr ?_; (simp [hlc, hme, hn1, ht1, hky, h1, h2, h3, h4, h5, h6, h7, h8, h9, hw, hby, n1, n2, n3, n4, n5, n6, m1, m2, m3, m4, m5, m6, m7, anilCheck, hlen, hlb, hlo, St.get_drop] <;> omega)))); simp [hlc, hme, hn1, ht1, hky, h1, h2, h3, h4, h5, h6, h7, h8, h9, hw, hby, n1, n2, n3, n4, n5, n6, m1, m2, m3, m4, m5, m6, m7, anilCheck, hlen, hlb, hlo, St.get_drop, onW_t, onW_f, onV_s]; first | (refine hA _ _ _ ?_ ?_ ?_ ?_; (focus (simp [hlc, hme, hn1, ht1, hky, h1, h2, h3, h4, h5, h6, h7, h8, h9, hw, hby, n1, n2, n3, n4, n5, n6, m1, m2, m3, m4, m5, m6, m7, anilCheck, hlen, hlb, hlo, St.get_drop] <;> omega)); (focus (first | exact .inl (by decide) | exact .inr (.inl rfl) | exact .inr (.inr rfl))); (focus (first | exact .inl (by decide) | exact .inr (.inl (by decide)) | (refine .inr (.inr fun s2 hs2 => ?_); have hs2n := hs2.nx; simp only [Keep_cons, Keep_nil] at hs2; simp [hlc, hme, hn1, ht1, hky, h1, h2, h3, h4, h5, h6, h7, h8, h9, hw, hby, n1, n2, n3, n4, n5, n6, m1, m2, m3, m4, m5, m6, m7, anilCheck, hlen, hlb, hlo, St.get_drop, hs2, hs2n]; done))); clear hA hB A B) | (refine hB ?_; clear hA hB A B))
    | refine WP.sr fun k hk => ?_ | refine WP.r fun k hk => ?_
    | (refine WP.swK [s.nx, tid, mid] ?_ fun k hk => ?_; (focus (decide))) | (refine WP.wK [s.nx, tid, mid] ?_ fun k hk => ?_; (focus (decide))) | refine WP.sd _ rfl fun k hk => ?_ | refine WP.d _ rfl fun k hk => ?_
    | (refine WP.cc fun A B hA hB => ?_; simp [hlc, hme, hn1, ht1, hky, h1, h2, h3, h4, h5, h6, h7, h8, h9, hw, hby, n1, n2, n3, n4, n5, n6, m1, m2, m3, m4, m5, m6, m7, anilCheck, hlen, hlb, hlo, St.get_drop, onB_t, onB_f]; first | (refine hA ?_; clear hA hB A B) | (refine hB ?_; clear hA hB A B) | (refine onB_if (fun h => hA ?_) (fun h => hB ?_) <;> clear hA hB A B))
    | refine WP.q ?_ | refine WP.b ?_)
  have hw2 : IntKind.i64.wrap (vs.length : Int) = (vs.length : Int) := wrap64 (by omega) (by omega)
  simp [FinW, hw2, St.get_drop]
  intro h id hi hw o ho
  by_cases e1 : id = tid
  · simp [e1] at ho
    subst ho
    refine OBelow_var fun x hx => ?_
    simp only [List.mem_cons, List.mem_nil_iff, or_false] at hx
    rcases hx with rfl | rfl
    · exact .map _ (by omega)
    · exact .ls _ _ _ (by omega)
  by_cases e2 : id = s.nx + 1
  · simp [e1, e2, m3] at ho
    subst ho
    have := OBelow_rowV (s.nx + 1 + 1) (true, 25) (vs ++ [bareV v])
    rwa [List.map_append, List.map_cons, List.map_nil] at this
  by_cases e5 : id = rd
  · simp [e1, e2, e5, h8, n6, show ¬ rd = s.nx + 1 by omega] at ho
  by_cases e3 : id = mid
  · simp [e1, e2, e3, e5, n5, n4, m7] at ho
    subst ho
    exact OBelow_num _ _ _ _
  by_cases e4 : id = s.nx
  · simp [e1, e2, e3, e4, m1, m2, m5] at ho
    subst ho
    exact OBelow_vcs _ _ _
  · rcases hw with (hw | hw | hw) | hw
    · exact absurd hw e1
    · exact absurd hw e3
    · exact absurd hw e5
    · omega
end
end Go.Am
namespace Go.Am
open Go.Proofs
section
variable {K : Nat} {gw : World} {s : St}
attribute [local simp] awanted xop zOf zrow aop ev T0 Slots.put Slots.set Slots.get awr WOk AV.may ofConst abinop aint isConst St.get_push St.get_put St.live AV.fit AV.cells AV.one fieldOf afieldAddr aload ofCells astore splice May eqres env_ti FinP FinZ FinW ares aresL ares1 Fns.addP Fns.add Fns.a0 Fns.a1 Fns.a2 Fns.a3 Fns.a4 abuiltin alenOk alen aindex elemOfT elemId abuildSlice afill chunks ard aappend isSS AV.isStr aminmax placesOf abuild afield aidx isStrD isStrDesc astrop aslice asliceOk abound arange anext aextract aunop aeq AV.ck avseq aveq aconv aconvert onB_t onB_f List.range_succ ti0 ti1 ti2 ti3 ti4 ti5 ti6 ti7 ti8 ti9 ti10 ti11 ti12 ti13 ti14 ti15 ti16 ti17 ti18 ti19 ti20 ti21 ti22 ti23 ti24 ti25 ti26 ti27 ti28 ti29 ti30 ti31 ti32 ti33 ti34 ti35 ti36 ti37 ti38 ti39 ti40 ti41 ti42 ti43 ti44 ti45 ti46 ti47 ti48 ti49 ti50 ti51 ti52 ti53 ti54 ti55 ti56 ti57 ti58 ti59 ti60 ti61 ti62 ti63 ti64 ti65 ti66 ti67 ti68 ti69 ti70 ti71 ti72 ti73 ti74 ti75 ti76 ti77 ti78 ti79 ti80 ti81 ti82 ti83 ti84 ti85 ti86 ti87 ti88 ti89 ti90 ti91 ti92 ti93 ti94 ti95 ti96 ti97 ti98 ti99 ti100 ti101 ti102 ti103 ti104 ti105 ti106 ti107 ti108 ti109 ti110 ti111 ti112 ti113 ti114 ti115 ti116 ti117 ti118 ti119 ti120 ti121 ti122 ti123 ti124 ti125 ti126 ti127 ti128 ti129 ti130 ti131 ti132 ti133 ti134 ti135 ti136 ti137 ti138 ti139 ti140 ti141 ti142 ti143 ti144 ti145 ti146 ti147
theorem numF_inj : ∀ (vs us : List V) (k : Nat), numF k vs = numF k us → vs = us
  | [], [], k, h => rfl
  | [], u :: us, k, h => by simp [numF] at h
  | v :: vs, [], k, h => by simp [numF] at h
  | v :: vs, u :: us, k, h => by
    simp only [numF, List.cons.injEq, Prod.mk.injEq, AV.agg.injEq, and_true] at h
    have h1 : decV v.cs = decV u.cs := by rw [h.1]
    have hd : ∀ v : V, decV v.cs = some v := fun v => rfl
    rw [hd, hd] at h1
    rw [Option.some.inj h1, numF_inj vs us (k + 1) h.2]
def putV (vs : List V) (v : V) : List V := match findF (bareV v) vs with
  | some _ => vs
  | none => vs ++ [bareV v]
def idx (vs : List V) (v : V) : Nat := (findF v vs).getD 0
theorem findF_snoc_new (v : V) : ∀ (vs : List V), findF v vs = none → findF v (vs ++ [v]) = some vs.length
  | [], h => by simp [findF]
  | u :: us, h => by
    simp only [findF, List.cons_append] at h ⊢
    by_cases e : v = u
    · simp [e] at h
    · simp only [e, if_false, Option.map_eq_none_iff] at h ⊢
      rw [findF_snoc_new v us h]; simp
theorem findF_snoc_old {v : V} (x : V) : ∀ {vs : List V} {i : Nat}, findF v vs = some i → findF v (vs ++ [x]) = some i
  | [], i, h => by simp [findF] at h
  | u :: us, i, h => by
    simp only [findF, List.cons_append] at h ⊢
    by_cases e : v = u
    · simpa [e] using h
    · simp only [e, if_false] at h ⊢
      obtain ⟨j, hj, rfl⟩ := Option.map_eq_some_iff.1 h
      rw [findF_snoc_old x hj]; rfl
def numP : List AV → St → AV → St → List Nat → Prop := fun xs s r s' l => ∀ tid v, xs = [.ptr tid 0, .agg (V.cs v)] → ∀ ty mid c vs, s.get tid = some (.var ty (.map mid :: c)) → s.get mid = some (.map (numF 0 vs)) →
  r = numV (findF (bareV v) vs) ∧ s' = s ∧ l = []
def noteP : List AV → St → AV → St → List Nat → Prop := fun xs s r s' l => ∀ tid v n, xs = [.ptr tid 0, .agg (V.cs v), .int .i64 n] → ∀ ty mid c vs, s.get tid = some (.var ty (.map mid :: c)) → s.get mid = some (.map (numF 0 vs)) →
  r = .tup [] ∧ s' = s.put mid (.map (numF 0 vs ++ [(.agg (bareV v).cs, .int .i64 n)])) ∧ l = [mid]
theorem cs_inj {v u : V} (h : v.cs = u.cs) : v = u := by
  have h1 : decV v.cs = decV u.cs := by rw [h]
  exact Option.some.inj h1
noncomputable def X2 (K : Nat) (gw : World) : Fns := ((X1.ch (env K gw) 43 numP).ch (env K gw) 44 noteP).addP 45 pBare
theorem X2_ok (hK : 0 < K) (hT : Tens gw) : FOk (env K gw) (X2 K gw) := by
  refine (((X1_ok hK hT).ch).ch).addP ?_
  intro xs s r h
  unfold pBare at h
  split at h
  · obtain ⟨v, hv, rfl⟩ := Option.map_eq_some_iff.1 h
    rw [decV_eq hv]
    exact ft_key hK hT v
  · cases h
theorem X2_number (hK : 0 < K) (hT : Tens gw) {tid mid : Nat} {ty : TypeId} {c : List AV} (v : V) (vs : List V) (h1 : tid < s.nx) (h2 : s.get tid = some (.var ty (.map mid :: c))) (h3 : mid < s.nx) (h4 : s.get mid = some (.map (numF 0 vs))) :
    X2 K gw 43 [.ptr tid 0, .agg v.cs] s = some (numV (findF (bareV v) vs), s, []) := by
  have hp : numP [.ptr tid 0, .agg v.cs] s (numV (findF (bareV v) vs)) s [] := by
    intro tid' v' he ty' mid' c' vs' h2' h4'
    simp only [List.cons.injEq, AV.ptr.injEq, AV.agg.injEq, and_true] at he
    obtain ⟨rfl, he⟩ := he
    obtain rfl := cs_inj he
    rw [h2] at h2'
    simp only [Option.some.injEq, AObj.var.injEq, List.cons.injEq, AV.map.injEq] at h2'
    obtain ⟨_, rfl, _⟩ := h2'
    rw [h4] at h4'
    simp only [Option.some.injEq, AObj.map.injEq] at h4'
    rw [numF_inj _ _ _ h4']
    exact ⟨rfl, rfl, rfl⟩
  obtain ⟨r, s', l, h5, h6⟩ := Fns.ch_some (F := X1) (P := numP) (l := []) ((ft_number hK hT v vs h1 h2 h3 h4).wider (W' := fun i => i ∈ ([] : List Nat)) fun i h => h.elim) hp
  obtain ⟨rfl, rfl, rfl⟩ := h6 tid v rfl ty mid c vs h2 h4
  unfold X2
  rw [Fns.addP, if_neg (by decide), Fns.ch_other (by decide)]
  exact h5
theorem X2_note (hK : 0 < K) (hT : Tens gw) {tid mid : Nat} {ty : TypeId} {c : List AV} (v : V) (n : Int) (vs : List V) (h1 : tid < s.nx) (h2 : s.get tid = some (.var ty (.map mid :: c))) (h3 : mid < s.nx) (h4 : s.get mid = some (.map (numF 0 vs)))
    (hf : findF (bareV v) vs = none) : X2 K gw 44 [.ptr tid 0, .agg v.cs, .int .i64 n] s = some (.tup [], s.put mid (.map (numF 0 vs ++ [(.agg (bareV v).cs, .int .i64 n)])), [mid]) := by
  have hp : noteP [.ptr tid 0, .agg v.cs, .int .i64 n] s (.tup []) (s.put mid (.map (numF 0 vs ++ [(.agg (bareV v).cs, .int .i64 n)]))) [mid] := by
    intro tid' v' n' he ty' mid' c' vs' h2' h4'
    simp only [List.cons.injEq, AV.ptr.injEq, AV.agg.injEq, AV.int.injEq, and_true, true_and] at he
    obtain ⟨rfl, he, rfl⟩ := he
    obtain rfl := cs_inj he
    rw [h2] at h2'
    simp only [Option.some.injEq, AObj.var.injEq, List.cons.injEq, AV.map.injEq] at h2'
    obtain ⟨_, rfl, _⟩ := h2'
    rw [h4] at h4'
    simp only [Option.some.injEq, AObj.map.injEq] at h4'
    rw [numF_inj _ _ _ h4']
    exact ⟨rfl, rfl, rfl⟩
  obtain ⟨r, s', l, h5, h6⟩ := Fns.ch_some (F := X1.ch (env K gw) 43 numP) (P := noteP) (l := [mid]) (ft_note hK hT v n vs h1 h2 h3 h4 hf) hp
  obtain ⟨rfl, rfl, rfl⟩ := h6 tid v n rfl ty mid c vs h2 h4
  unfold X2
  rw [Fns.addP, if_neg (by decide)]
  exact h5
theorem X2_key (v : V) (s2 : St) : X2 K gw 45 [.agg v.cs] s2 = some (.agg (bareV v).cs, s2, []) := by
  unfold X2
  rw [Fns.addP, if_pos rfl]
  have hd : decV v.cs = some v := rfl
  simp [pBare, hd]
/-- What Table.Put does. -/
def putP : List AV → St → AV → St → List Nat → Prop := fun xs s r s' ids => ∀ tid v, xs = [.ptr tid 0, .agg (V.cs v)] → ∀ l vs, Tab s l tid vs → Own s l →
  (∀ i ∈ ids, i ∈ l) ∧ Eff l s s' ∧ r = .int .i64 (idx (putV vs v) (bareV v) : Nat) ∧ ∃ l', Tab s' l' tid (putV vs v) ∧ Own s' l' ∧ ∀ i ∈ l', i ∈ l ∨ (s.nx ≤ i ∧ i < s'.nx)
theorem Tab.num {l l' : List Nat} {tid : Nat} {vs vs' : List V} (h : Tab s l tid vs) (h' : Tab s l' tid vs') : vs = vs' := by
  obtain ⟨mid, h1, h2, h3, h4, h5, h6⟩ := h
  obtain ⟨mid', h1', h2', h3', h4', h5', h6'⟩ := h'
  have hm : mid = mid' := by
    have e1 : ∃ ty c, s.get tid = some (.var ty (.map mid :: c)) := by
      rcases h6 with ⟨_, b⟩ | ⟨_, rd, _, _, _, b, _⟩ <;> exact ⟨_, _, b⟩
    have e2 : ∃ ty c, s.get tid = some (.var ty (.map mid' :: c)) := by
      rcases h6' with ⟨_, b⟩ | ⟨_, rd, _, _, _, b, _⟩ <;> exact ⟨_, _, b⟩
    obtain ⟨ty, c, e1⟩ := e1
    obtain ⟨ty', c', e2⟩ := e2
    rw [e1] at e2
    simp only [Option.some.injEq, AObj.var.injEq, List.cons.injEq, AV.map.injEq] at e2
    exact e2.2.1
  subst hm
  rw [h5] at h5'
  simp only [Option.some.injEq, AObj.map.injEq] at h5'
  exact numF_inj _ _ _ h5'
theorem ft_Put (hK : 0 < K) (hT : Tens gw) {l : List Nat} {tid : Nat} (v : V) {vs : List V} (h : Tab s l tid vs) (hl : vs.length < 1073741824) :
    ∃ r s' ids, FT (env K gw) (fun i => i ∈ ids) 31 [.ptr tid 0, .agg v.cs] s r s' ∧ putP [.ptr tid 0, .agg v.cs] s r s' ids := by
  have key : ∀ r s' ids, (∀ l, Tab s l tid vs → Own s l → (∀ i ∈ ids, i ∈ l) ∧ Eff l s s' ∧ r = .int .i64 (idx (putV vs v) (bareV v) : Nat) ∧ ∃ l', Tab s' l' tid (putV vs v) ∧ Own s' l' ∧ ∀ i ∈ l', i ∈ l ∨ (s.nx ≤ i ∧ i < s'.nx)) → putP [.ptr tid 0, .agg v.cs] s r s' ids := by
    intro r s' ids hk tid' v' he l' vs' hT' hO
    simp only [List.cons.injEq, AV.ptr.injEq, AV.agg.injEq, and_true] at he
    obtain ⟨rfl, he⟩ := he
    obtain rfl := cs_inj he
    obtain rfl := h.num hT'
    exact hk l' hT' hO
  have h' := h
  obtain ⟨mid, h1, h2, h3, h4, h5, h6⟩ := h
  have q1 := h4 tid h1
  have q2 := h4 mid h2
  cases hf : findF (bareV v) vs with
  | some i =>
    have hv : putV vs v = vs := by simp [putV, hf]
    have hi : idx vs (bareV v) = i := by simp [idx, hf]
    have e1 : ∃ c, s.get tid = some (.var 89 (.map mid :: c)) := by
      rcases h6 with ⟨_, b⟩ | ⟨_, rd, _, _, _, b, _⟩ <;> exact ⟨_, b⟩
    obtain ⟨c, e1⟩ := e1
    refine ⟨_, _, [], (ft_PutF v vs i q1 e1 q2 h5 (X2_ok hK hT) hf fun s2 a b c d => X2_number hK hT v vs c a d b).wider (W' := fun i => i ∈ ([] : List Nat)) fun i h => h.elim, key _ _ _ fun l hl ho => ?_⟩
    rw [hv, hi]
    exact ⟨fun i h => (by cases h), Eff.refl ho, rfl, l, h'.num hl ▸ hl, ho, fun i hi => .inl hi⟩
  | none =>
    have hv : putV vs v = vs ++ [bareV v] := by simp [putV, hf]
    have hi : idx (vs ++ [bareV v]) (bareV v) = vs.length := by simp [idx, findF_snoc_new _ _ hf]
    rcases h6 with ⟨rfl, b⟩ | ⟨hne, rd, c1, c2, c3, b, d⟩
    · have hF := ft_PutA (K := K) (gw := gw) (F := X2 K gw) v q1 b q2 h5 h3 (X2_ok hK hT) (fun s2 a b c d => by simpa [numV, findF] using X2_number hK hT v [] c a d b) (fun s2 a b c d => by simpa [numF] using X2_note hK hT v 0 [] c a d b hf) (X2_key v)
      refine ⟨_, _, [tid, mid], hF, key _ _ _ fun l hl ho => ?_⟩
      have hmid : mid ∈ l ∧ tid ∈ l := by
        obtain ⟨mid', g1, g2, g3, g4, g5, g6⟩ := hl
        rcases g6 with ⟨_, g6⟩ | ⟨hne, _⟩
        · rw [b] at g6
          simp only [Option.some.injEq, AObj.var.injEq, List.cons.injEq, AV.map.injEq] at g6
          obtain ⟨_, rfl, _⟩ := g6
          exact ⟨g2, g1⟩
        · exact absurd rfl hne
      have hE : Eff l s ((((s.push (.var 25 v.cs)).put mid (.map [(.agg (bareV v).cs, .int .i64 0)])).push (.row 3 (true, 25) [(bareV v).cs])).put tid (.var 89 [.map mid, .ls (s.nx + 1) 0 1])) := by
        refine Eff.put (Eff.push (Eff.put (Eff.push (Eff.refl ho) (OBelow_vcs _ _ _)) (.inl hmid.1) (OBelow_num _ [] _ _)) (OBelow_rowV _ _ [bareV v])) (.inl hmid.2) (OBelow_var fun x hx => ?_)
        simp only [List.mem_cons, List.mem_nil_iff, or_false] at hx
        rcases hx with rfl | rfl
        · exact .map _ (by simp; omega)
        · exact .ls _ _ _ (by simp)
      rw [hv, hi]
      have n1 : ¬ mid = tid := fun h => h3 h.symm
      have n2 : ¬ s.nx + 1 = tid := by omega
      have n3 : ¬ mid = s.nx + 1 := by omega
      refine ⟨fun i hi => ?_, hE, rfl, [tid, mid, s.nx + 1], ⟨mid, by simp, by simp, h3, ?_, ?_, .inr ⟨by simp, s.nx + 1, by simp, n2, fun h => n3 h.symm, by simp [St.get_put], ?_⟩⟩, ?_, ?_⟩
      · simp at hi; rcases hi with rfl | rfl; exact hmid.2; exact hmid.1
      · intro i hi; simp at hi ⊢; omega
      · simp [St.get_put, St.get_push, n1, n3, numF]
      · simp [St.get_put, St.get_push, n2]
      · refine Own.eff hE ho (fun i hi => ?_) fun i hi => (ho i hi).1
        simp at hi ⊢
        rcases hi with rfl | rfl | rfl
        · exact .inl hmid.2
        · exact .inl hmid.1
        · exact .inr (by omega)
      · intro i hi
        simp at hi ⊢
        rcases hi with rfl | rfl | rfl
        · exact .inl hmid.2
        · exact .inl hmid.1
        · exact .inr (by omega)
    · have q3 := h4 rd c1
      have hF := ft_PutB (K := K) (gw := gw) (F := X2 K gw) v vs q1 b q2 h5 h3 q3 d c2 c3 hl (X2_ok hK hT) (fun s2 a b c d => by simpa [numV, hf] using X2_number hK hT v vs c a d b) (fun s2 a b c d => X2_note hK hT v vs.length vs c a d b hf) (X2_key v)
      refine ⟨_, _, [tid, mid, rd], hF, key _ _ _ fun l hl ho => ?_⟩
      have hmid : mid ∈ l ∧ tid ∈ l ∧ rd ∈ l := by
        obtain ⟨mid', g1, g2, g3, g4, g5, g6⟩ := hl
        rcases g6 with ⟨g, _⟩ | ⟨_, rd', g7, _, _, g6, _⟩
        · exact absurd g hne
        · rw [b] at g6
          simp only [Option.some.injEq, AObj.var.injEq, List.cons.injEq, AV.map.injEq, AV.ls.injEq] at g6
          obtain ⟨_, rfl, ⟨rfl, _⟩, _⟩ := g6
          exact ⟨g2, g1, g7⟩
      have hE : Eff l s (((((s.push (.var 25 v.cs)).put mid (.map (numF 0 vs ++ [(.agg (bareV v).cs, .int .i64 vs.length)]))).drop rd).push (.row 3 (true, 25) (vs.map V.cs ++ [(bareV v).cs]))).put tid (.var 89 [.map mid, .ls (s.nx + 1) 0 (vs.length + 1)])) := by
        refine Eff.put (Eff.push (Eff.drop (Eff.put (Eff.push (Eff.refl ho) (OBelow_vcs _ _ _)) (.inl hmid.1) (OBelow_num _ _ _ _)) (.inl hmid.2.2)) ?_) (.inl hmid.2.1) (OBelow_var fun x hx => ?_)
        · have := OBelow_rowV (s.nx + 1 + 1) (true, 25) (vs ++ [bareV v])
          rwa [List.map_append, List.map_cons, List.map_nil] at this
        · simp only [List.mem_cons, List.mem_nil_iff, or_false] at hx
          rcases hx with rfl | rfl
          · exact .map _ (by simp; omega)
          · exact .ls _ _ _ (by simp)
      rw [hv, hi]
      have n1 : ¬ mid = tid := fun h => h3 h.symm
      have n2 : ¬ s.nx + 1 = tid := by omega
      have n3 : ¬ mid = s.nx + 1 := by omega
      have n4 : ¬ mid = rd := fun h => c3 h.symm
      refine ⟨fun i hi => ?_, hE, rfl, [tid, mid, s.nx + 1], ⟨mid, by simp, by simp, h3, ?_, ?_, .inr ⟨by simp, s.nx + 1, by simp, n2, fun h => n3 h.symm, by simp [St.get_put], ?_⟩⟩, ?_, ?_⟩
      · simp at hi; rcases hi with rfl | rfl | rfl; exact hmid.2.1; exact hmid.1; exact hmid.2.2
      · intro i hi; simp at hi ⊢; omega
      · simp [St.get_put, St.get_push, St.get_drop, n1, n3, n4, numF_snoc]
      · simp [St.get_put, St.get_push, n2]
      · refine Own.eff hE ho (fun i hi => ?_) fun i hi => (ho i hi).1
        simp at hi ⊢
        rcases hi with rfl | rfl | rfl
        · exact .inl hmid.2.1
        · exact .inl hmid.1
        · exact .inr (by omega)
      · intro i hi
        simp at hi ⊢
        rcases hi with rfl | rfl | rfl
        · exact .inl hmid.2.1
        · exact .inl hmid.1
        · exact .inr (by omega)
end
end Go.Am
namespace Go.Am
open Go.Proofs
section
variable {K : Nat} {gw : World} {s : St}
attribute [local simp] awanted xop zOf zrow aop ev T0 Slots.put Slots.set Slots.get awr WOk AV.may ofConst abinop aint isConst St.get_push St.get_put St.live AV.fit AV.cells AV.one fieldOf afieldAddr aload ofCells astore splice May eqres env_ti FinP FinZ FinW ares aresL ares1 Fns.addP Fns.add Fns.a0 Fns.a1 Fns.a2 Fns.a3 Fns.a4 abuiltin alenOk alen aindex elemOfT elemId abuildSlice afill chunks ard aappend isSS AV.isStr aminmax placesOf abuild afield aidx isStrD isStrDesc astrop aslice asliceOk abound arange anext aextract aunop aeq AV.ck avseq aveq aconv aconvert onB_t onB_f List.range_succ ti0 ti1 ti2 ti3 ti4 ti5 ti6 ti7 ti8 ti9 ti10 ti11 ti12 ti13 ti14 ti15 ti16 ti17 ti18 ti19 ti20 ti21 ti22 ti23 ti24 ti25 ti26 ti27 ti28 ti29 ti30 ti31 ti32 ti33 ti34 ti35 ti36 ti37 ti38 ti39 ti40 ti41 ti42 ti43 ti44 ti45 ti46 ti47 ti48 ti49 ti50 ti51 ti52 ti53 ti54 ti55 ti56 ti57 ti58 ti59 ti60 ti61 ti62 ti63 ti64 ti65 ti66 ti67 ti68 ti69 ti70 ti71 ti72 ti73 ti74 ti75 ti76 ti77 ti78 ti79 ti80 ti81 ti82 ti83 ti84 ti85 ti86 ti87 ti88 ti89 ti90 ti91 ti92 ti93 ti94 ti95 ti96 ti97 ti98 ti99 ti100 ti101 ti102 ti103 ti104 ti105 ti106 ti107 ti108 ti109 ti110 ti111 ti112 ti113 ti114 ti115 ti116 ti117 ti118 ti119 ti120 ti121 ti122 ti123 ti124 ti125 ti126 ti127 ti128 ti129 ti130 ti131 ti132 ti133 ti134 ti135 ti136 ti137 ti138 ti139 ti140 ti141 ti142 ti143 ti144 ti145 ti146 ti147
/-! a row's name: its numbers, each with a blank behind it -/
def nameN (n : Nat) : List UInt8 := Lib.itoa (n : Int) ++ [32]
def nameT (l : List Nat) : List UInt8 := l.flatMap nameN
def nums (l : List Nat) : List (List AV) := l.map fun n => [.int .i64 ((n : Nat) : Int)]
theorem nameN_ne (n : Nat) : nameN n ≠ [] := by simp [nameN]
theorem nameT_take {l : List Nat} {i : Nat} (h : i < l.length) : nameT (l.take (i + 1)) = nameT (l.take i) ++ nameN l[i] := by
  simp only [nameT]
  rw [List.take_succ_eq_append_getElem h, List.flatMap_append]
  simp
theorem ft_name (hK : 0 < K) (hT : Tens gw) (l : List Nat) (hl : l.length < 1073741824) (hn : ∀ n ∈ l, n < 9223372036854775807) (hk : (nameT l).length ≤ 140737488355328) : FT (env K gw) NoW 32 [.sl (nums l)] s (.str (nameT l)) s := by
  refine FT.pure (fn := Tryd.f32) (F9_ok hK hT) mixed Tryd.func32 (by kernel_rfl) (by rfl) rfl rfl (by simp) rfl fun μ w => ?_
  have hlen : (nums l).length = l.length := by simp [nums]
  repeat' (first
    | refine WP.t ?_ | refine WP.k ?_ | refine WP.e ?_ | refine Qn ?_ | refine Qr ?_ | refine Qe ?_ | refine Bn ?_ | refine Br ?_ | refine Be ?_ | refine Bx (by decide) ?_
    | (refine RS.nl ?_; refine hk _ _ ?_; clear hk k)
    | ((first | refine RS.st fun A B hA hB => ?_ | refine RQ.st fun A B hA hB => ?_); simp [abuiltin, alenOk, alen, ti44, ti96, hlen, onW_t, onW_f, onV_s]; first | ((first | refine hA _ _ _ ?_ ?_ | refine hA _ _ _ ?_ (by first | exact .inl rfl | exact .inr (by decide)) ?_); (focus (simp [abuiltin, alenOk, alen, ti44, ti96, hlen] <;> omega)); clear hA hB A B) | (refine hB ?_; clear hA hB A B) | (refine onV_if ?_ ?_; (focus (first | omega | (refine ⟨?_, ?_⟩ <;> omega))); simp only [onV_s]; (first | refine hA _ _ _ ?_ ?_ | refine hA _ _ _ ?_ (by first | exact .inl rfl | exact .inr (by decide)) ?_); (focus (simp [abuiltin, alenOk, alen, ti44, ti96, hlen] <;> omega)); clear hA hB A B))
    | (refine RQ.nl ?_; refine hk _ _ ?_; clear hk k)
    | refine WP.sr fun k hk => ?_ | refine WP.r fun k hk => ?_
    | refine WP.sd _ rfl fun k hk => ?_ | refine WP.d _ rfl fun k hk => ?_
    | (refine WP.cc fun A B hA hB => ?_; simp [abuiltin, alenOk, alen, ti44, ti96, hlen, onB_t, onB_f]; first | (refine hA ?_; clear hA hB A B) | (refine hB ?_; clear hA hB A B) | (refine onB_if (fun h => hA ?_) (fun h => hB ?_) <;> clear hA hB A B))
    | refine WP.q ?_ | refine WP.b ?_)
  refine WP_loop (fun n T s' => ∃ i : Nat, n + i = l.length ∧ T.get 3 = .ptr s.nx 0 ∧ T.get 6 = .sl (nums l) ∧ T.get 7 = .int .i64 l.length ∧ T.get 8 = .int .i64 i ∧ s.nx < s'.nx ∧ Bld s' s.nx s.nx (nameT (l.take i))) l.length ⟨0, by simp, by simp, by simp, by simp [hlen], by simp, by simp, ⟨.np, by simp [okp], .inl ⟨by simp [nameT], by simp⟩⟩⟩ ?_
  rintro n T s' ⟨i, hni, h3, h8, h9, h10, hnx, hB⟩
  by_cases hi : i < l.length
  · have hw : IntKind.i64.wrap ((i : Int) + 1) = (i : Int) + 1 := wrap64 (by omega) (by omega)
    have ha : l[i]? = some l[i] := List.getElem?_eq_getElem hi
    have ha2 : (nums l)[i]? = some [.int .i64 (l[i] : Int)] := by simp [nums, List.getElem?_map, ha]
    have ha3 : ∀ h : i < (nums l).length, (nums l)[i]'h = [.int .i64 (l[i] : Int)] := fun h => by simp [nums]
    have hlt : ((i : Int) < (l.length : Int)) := by omega
    have hin := hn l[i] (List.getElem_mem hi)
    have hke := nameT_take hi
    generalize hv : l[i] = v at *
    have hle : s.nx ≤ s'.nx := by omega
    have hkt : (nameT (l.take (i + 1))).length ≤ 140737488355328 := by
      have e : nameT l = nameT (l.take (i + 1)) ++ nameT (l.drop (i + 1)) := by
        unfold nameT
        rw [← List.flatMap_append, List.take_append_drop]
      rw [e, List.length_append] at hk
      omega
    have hlk := congrArg List.length hke
    rw [List.length_append] at hlk
    obtain ⟨s2, l2, hwr, hl2, hb2, hn2⟩ := write_bld (y := nameN v) hB (by omega) (Nat.le_refl _) (List.length_pos_iff.2 (nameN_ne v)) (by omega)
    have hin2 : i64ok (v : Int) = true := by
      simp only [i64ok, decide_eq_true_eq]; omega
    simp [nameN] at hwr hlk
    have c1 : (Lib.itoa (v : Int)).length + 1 ≤ 9223372036854775807 := by omega
    have hl3 : ∀ id ∈ l2, May s.nx NoW id := fun id h => .inr (hl2 id h)
    repeat' (first
      | refine WP.t ?_ | refine WP.k ?_ | refine WP.e ?_ | refine Qn ?_ | refine Qr ?_ | refine Qe ?_ | refine Bn ?_ | refine Br ?_ | refine Be ?_ | refine Bx (by decide) ?_
      | (refine RS.nl ?_; refine hk _ _ ?_; clear hk k)
      | ((first | refine RS.st fun A B hA hB => ?_ | refine RQ.st fun A B hA hB => ?_); simp [h3, h8, h9, h10, hlt, hi, ha, ha2, ha3, hw, hwr, hin2, hle, hl2, ti44, ti3, ti9, F9, F8, F7, F6, F5, pItoa, hin, astrop, abuiltin, alen, alenOk, c1, hlen, onW_t, onW_f, onV_s]; first | ((first | refine hA _ _ _ ?_ ?_ | refine hA _ _ _ ?_ (by first | exact .inl rfl | exact .inr (by decide)) ?_); (focus (simp [h3, h8, h9, h10, hlt, hi, ha, ha2, ha3, hw, hwr, hin2, hle, hl2, ti44, ti3, ti9, F9, F8, F7, F6, F5, pItoa, hin, astrop, abuiltin, alen, alenOk, c1, hlen] <;> omega)); clear hA hB A B) | (refine hB ?_; clear hA hB A B) | (refine onV_if ?_ ?_; (focus (first | omega | (refine ⟨?_, ?_⟩ <;> omega))); simp only [onV_s]; (first | refine hA _ _ _ ?_ ?_ | refine hA _ _ _ ?_ (by first | exact .inl rfl | exact .inr (by decide)) ?_); (focus (simp [h3, h8, h9, h10, hlt, hi, ha, ha2, ha3, hw, hwr, hin2, hle, hl2, ti44, ti3, ti9, F9, F8, F7, F6, F5, pItoa, hin, astrop, abuiltin, alen, alenOk, c1, hlen] <;> omega)); clear hA hB A B))
      | (refine RQ.nl ?_; refine hk _ _ ?_; clear hk k)
      | refine WP.sr fun k hk => ?_ | refine WP.r fun k hk => ?_
      | refine WP.sd _ rfl fun k hk => ?_ | refine WP.d _ rfl fun k hk => ?_
      | (refine WP.cc fun A B hA hB => ?_; simp [h3, h8, h9, h10, hlt, hi, ha, ha2, ha3, hw, hwr, hin2, hle, hl2, ti44, ti3, ti9, F9, F8, F7, F6, F5, pItoa, hin, astrop, abuiltin, alen, alenOk, c1, hlen, onB_t, onB_f]; first | (refine hA ?_; clear hA hB A B) | (refine hB ?_; clear hA hB A B) | (refine onB_if (fun h => hA ?_) (fun h => hB ?_) <;> clear hA hB A B))
      | refine WP.q ?_ | refine WP.b ?_)
    exact ⟨n - 1, by omega, i + 1, by omega, by simp [h3], by simp [h8], by simp [h9], by simp, by omega, by rw [hke]; exact hb2⟩
  · have hlt : ¬ ((i : Int) < (l.length : Int)) := by omega
    have he : i = l.length := by omega
    subst he
    rw [List.take_length] at hB
    obtain ⟨s2, l2, hst, hl2⟩ := string_bld hB hnx hk
    repeat' (first
      | refine WP.t ?_ | refine WP.k ?_ | refine WP.e ?_ | refine Qn ?_ | refine Qr ?_ | refine Qe ?_ | refine Bn ?_ | refine Br ?_ | refine Be ?_ | refine Bx (by decide) ?_
      | (refine RS.nl ?_; refine hk _ _ ?_; clear hk k)
      | ((first | refine RS.st fun A B hA hB => ?_ | refine RQ.st fun A B hA hB => ?_); simp [h3, h8, h9, h10, hlt, F9, F8, hst, hl2, onW_t, onW_f, onV_s]; first | ((first | refine hA _ _ _ ?_ ?_ | refine hA _ _ _ ?_ (by first | exact .inl rfl | exact .inr (by decide)) ?_); (focus (simp [h3, h8, h9, h10, hlt, F9, F8, hst, hl2] <;> omega)); clear hA hB A B) | (refine hB ?_; clear hA hB A B) | (refine onV_if ?_ ?_; (focus (first | omega | (refine ⟨?_, ?_⟩ <;> omega))); simp only [onV_s]; (first | refine hA _ _ _ ?_ ?_ | refine hA _ _ _ ?_ (by first | exact .inl rfl | exact .inr (by decide)) ?_); (focus (simp [h3, h8, h9, h10, hlt, F9, F8, hst, hl2] <;> omega)); clear hA hB A B))
      | (refine RQ.nl ?_; refine hk _ _ ?_; clear hk k)
      | refine WP.sr fun k hk => ?_ | refine WP.r fun k hk => ?_
      | refine WP.sd _ rfl fun k hk => ?_ | refine WP.d _ rfl fun k hk => ?_
      | (refine WP.cc fun A B hA hB => ?_; simp [h3, h8, h9, h10, hlt, F9, F8, hst, hl2, onB_t, onB_f]; first | (refine hA ?_; clear hA hB A B) | (refine hB ?_; clear hA hB A B) | (refine onB_if (fun h => hA ?_) (fun h => hB ?_) <;> clear hA hB A B))
      | refine WP.q ?_ | refine WP.b ?_)
    simp
end
end Go.Am
namespace Go.Am
open Go.Proofs
section
variable {K : Nat} {gw : World} {s : St}
attribute [local simp] awanted xop zOf zrow aop ev T0 Slots.put Slots.set Slots.get awr WOk AV.may ofConst abinop aint isConst St.get_push St.get_put St.live AV.fit AV.cells AV.one fieldOf afieldAddr aload ofCells astore splice May eqres env_ti FinP FinZ FinW ares aresL ares1 Fns.addP Fns.add Fns.a0 Fns.a1 Fns.a2 Fns.a3 Fns.a4 abuiltin alenOk alen aindex elemOfT elemId abuildSlice afill chunks ard aappend isSS AV.isStr aminmax placesOf abuild afield aidx isStrD isStrDesc astrop aslice asliceOk abound arange anext aextract aunop aeq AV.ck avseq aveq aconv aconvert onB_t onB_f List.range_succ ti0 ti1 ti2 ti3 ti4 ti5 ti6 ti7 ti8 ti9 ti10 ti11 ti12 ti13 ti14 ti15 ti16 ti17 ti18 ti19 ti20 ti21 ti22 ti23 ti24 ti25 ti26 ti27 ti28 ti29 ti30 ti31 ti32 ti33 ti34 ti35 ti36 ti37 ti38 ti39 ti40 ti41 ti42 ti43 ti44 ti45 ti46 ti47 ti48 ti49 ti50 ti51 ti52 ti53 ti54 ti55 ti56 ti57 ti58 ti59 ti60 ti61 ti62 ti63 ti64 ti65 ti66 ti67 ti68 ti69 ti70 ti71 ti72 ti73 ti74 ti75 ti76 ti77 ti78 ti79 ti80 ti81 ti82 ti83 ti84 ti85 ti86 ti87 ti88 ti89 ti90 ti91 ti92 ti93 ti94 ti95 ti96 ti97 ti98 ti99 ti100 ti101 ti102 ti103 ti104 ti105 ti106 ti107 ti108 ti109 ti110 ti111 ti112 ti113 ti114 ti115 ti116 ti117 ti118 ti119 ti120 ti121 ti122 ti123 ti124 ti125 ti126 ti127 ti128 ti129 ti130 ti131 ti132 ti133 ti134 ti135 ti136 ti137 ti138 ti139 ti140 ti141 ti142 ti143 ti144 ti145 ti146 ti147
noncomputable def X3 (K : Nat) (gw : World) : Fns := ((X2 K gw).ch (env K gw) 52 numP).ch (env K gw) 31 putP
theorem X3_ok (hK : 0 < K) (hT : Tens gw) : FOk (env K gw) (X3 K gw) := ((X2_ok hK hT).ch).ch
theorem X3_find (hK : 0 < K) (hT : Tens gw) {tid mid : Nat} {ty : TypeId} {c : List AV} (v : V) (vs : List V) (h1 : tid < s.nx) (h2 : s.get tid = some (.var ty (.map mid :: c))) (h3 : mid < s.nx) (h4 : s.get mid = some (.map (numF 0 vs))) :
    X3 K gw 52 [.ptr tid 0, .agg v.cs] s = some (numV (findF (bareV v) vs), s, []) := by
  have hp : numP [.ptr tid 0, .agg v.cs] s (numV (findF (bareV v) vs)) s [] := by
    intro tid' v' he ty' mid' c' vs' h2' h4'
    simp only [List.cons.injEq, AV.ptr.injEq, AV.agg.injEq, and_true] at he
    obtain ⟨rfl, he⟩ := he
    obtain rfl := cs_inj he
    rw [h2] at h2'
    simp only [Option.some.injEq, AObj.var.injEq, List.cons.injEq, AV.map.injEq] at h2'
    obtain ⟨_, rfl, _⟩ := h2'
    rw [h4] at h4'
    simp only [Option.some.injEq, AObj.map.injEq] at h4'
    rw [numF_inj _ _ _ h4']
    exact ⟨rfl, rfl, rfl⟩
  have hF := ft_Find (K := K) (gw := gw) hK hT v vs h1 h2 h3 h4 (X2_ok hK hT) fun s2 a b c d => X2_number hK hT v vs c a d b
  obtain ⟨r, s', l, h5, h6⟩ := Fns.ch_some (F := X2 K gw) (P := numP) (l := []) (hF.wider (W' := fun i => i ∈ ([] : List Nat)) fun i h => h.elim) hp
  obtain ⟨rfl, rfl, rfl⟩ := h6 tid v rfl ty mid c vs h2 h4
  unfold X3
  rw [Fns.ch_other (by decide)]
  exact h5
theorem X3_put (hK : 0 < K) (hT : Tens gw) {l : List Nat} {tid : Nat} (v : V) {vs : List V} (h : Tab s l tid vs) (ho : Own s l) (hl : vs.length < 1073741824) :
    ∃ s' ids, X3 K gw 31 [.ptr tid 0, .agg v.cs] s = some (.int .i64 (idx (putV vs v) (bareV v) : Nat), s', ids) ∧ (∀ i ∈ ids, i ∈ l) ∧ Eff l s s' ∧ ∃ l', Tab s' l' tid (putV vs v) ∧ Own s' l' ∧ ∀ i ∈ l', i ∈ l ∨ (s.nx ≤ i ∧ i < s'.nx) := by
  obtain ⟨r, s', ids, hF, hP⟩ := ft_Put (K := K) (gw := gw) hK hT v h hl
  obtain ⟨r, s', ids, h5, h6⟩ := Fns.ch_some (F := (X2 K gw).ch (env K gw) 52 numP) (P := putP) hF hP
  obtain ⟨h7, h8, rfl, h9⟩ := h6 tid v rfl l vs h ho
  exact ⟨s', ids, h5, h7, h8, h9⟩
def allIn (tab : List V) (t : List V) : Bool := t.all fun v => (findF (bareV v) tab).isSome
def idxs (tab : List V) (t : List V) : List Nat := t.map fun v => idx tab (bareV v)
def numsV (tab t : List V) : AV := if allIn tab t then .tup [.sl (nums (idxs tab t)), .bool true] else .tup [.sl [], .bool false]
theorem below_nums (n : Nat) (l : List Nat) : ∀ e ∈ nums l, ∀ x ∈ e, Below n x := fun e he x hx => by
  obtain ⟨m, _, rfl⟩ := List.mem_map.1 he
  simp at hx
  subst hx
  exact .int _ _
theorem frz_nums {s1 : St} {n rd : Nat} {k : RK} {l : List Nat} {m : Nat} (hr : s1.get rd = some (.row 1 k (nums l))) (hn : n ≤ rd) (hm : m = l.length) : Frz s1 n (.ls rd 0 m) (.sl (nums l)) := by
  have hl : m = (nums l).length := by simp [nums, hm]
  rw [hl]
  refine .row rd 1 k _ _ hr hn rfl (fun e he => ?_) (fun i j y hy => ⟨y, hy⟩) (fun i j x y hx hy => ?_)
  · obtain ⟨v, _, rfl⟩ := List.mem_map.1 he; rfl
  · rw [hx] at hy
    obtain rfl := Option.some.inj hy
    exact .same x (allGet2' (below_nums n l) i j x hx)
/-- What a relation's var is. -/
def relO (tid ar : Nat) (rw : AV) (atid : Nat) : AObj := .var 70 [.ptr tid 0, .int .i64 ar, rw, .map atid]
theorem ft_nums (hK : 0 < K) (hT : Tens gw) {rid tid mid ar atid : Nat} {rw : AV} {ty : TypeId} {c : List AV} {tab : List V} (t : List V) (hl : t.length < 1073741824)
    (hr : rid < s.nx) (hg : s.get rid = some (relO tid ar rw atid)) (h1 : tid < s.nx) (h2 : s.get tid = some (.var ty (.map mid :: c))) (h3 : mid < s.nx) (h4 : s.get mid = some (.map (numF 0 tab))) :
    FT (env K gw) NoW 38 [.ptr rid 0, .sl (t.map V.cs)] s (numsV tab t) s := by
  refine FT.data (fn := Tryd.f38) (X3_ok hK hT) mixed Tryd.func38 (by kernel_rfl) (by rfl) rfl rfl (by simp) rfl fun μ w => ?_
  repeat' (first
    | refine WP.t ?_ | refine WP.k ?_ | refine WP.e ?_ | refine Qn ?_ | refine Qr ?_ | refine Qe ?_ | refine Bn ?_ | refine Br ?_ | refine Be ?_ | refine Bx (by decide) ?_
    | (refine RS.nl ?_; refine hk _ _ ?_; clear hk k)
    | ((first | refine RS.st fun A B hA hB => ?_ | refine RQ.st fun A B hA hB => ?_); simp [onW_t, onW_t, onW_f, onV_s]; first | ((first | refine hA _ _ _ ?_ ?_ | refine hA _ _ _ ?_ (by first | exact .inl rfl | exact .inr (by decide)) ?_); (focus (simp [onW_t] <;> omega)); clear hA hB A B) | (refine hB ?_; clear hA hB A B) | (refine onV_if ?_ ?_; (focus (first | omega | (refine ⟨?_, ?_⟩ <;> omega))); simp only [onV_s]; (first | refine hA _ _ _ ?_ ?_ | refine hA _ _ _ ?_ (by first | exact .inl rfl | exact .inr (by decide)) ?_); (focus (simp [onW_t] <;> omega)); clear hA hB A B))
    | (refine RQ.nl ?_; refine hk _ _ ?_; clear hk k)
    | refine WP.sr fun k hk => ?_ | refine WP.r fun k hk => ?_
    | refine WP.sd _ rfl fun k hk => ?_ | refine WP.d _ rfl fun k hk => ?_
    | (refine WP.cc fun A B hA hB => ?_; simp [onW_t, onB_t, onB_f]; first | (refine hA ?_; clear hA hB A B) | (refine hB ?_; clear hA hB A B) | (refine onB_if (fun h => hA ?_) (fun h => hB ?_) <;> clear hA hB A B))
    | refine WP.q ?_ | refine WP.b ?_)
  refine WP_loop (fun n T s' => ∃ i : Nat, n + i = t.length ∧ T.get 0 = .ptr rid 0 ∧ T.get 11 = .sl (t.map V.cs) ∧ T.get 12 = .int .i64 t.length ∧ T.get 13 = .int .i64 i ∧ s.nx ≤ s'.nx ∧ s'.get rid = s.get rid ∧ s'.get tid = s.get tid ∧ s'.get mid = s.get mid ∧
    allIn tab (t.take i) = true ∧
    ((i = 0 ∧ T.get 6 = .nsl) ∨ (0 < i ∧ ∃ rd, s.nx ≤ rd ∧ rd < s'.nx ∧ T.get 6 = .ls rd 0 i ∧ s'.get rd = some (.row 1 (true, 3) (nums (idxs tab (t.take i))))))) t.length ⟨0, by simp, by simp, by simp, by simp, by simp, by simp, rfl, rfl, rfl, by simp [allIn], .inl ⟨rfl, by simp⟩⟩ ?_
  rintro n T s' ⟨i, hni, g0, g11, g12, g13, hnx, k1, k2, k3, hall, hB⟩
  rw [hg] at k1
  rw [h2] at k2
  rw [h4] at k3
  by_cases hi : i < t.length
  · have hw : IntKind.i64.wrap ((i : Int) + 1) = (i : Int) + 1 := wrap64 (by omega) (by omega)
    have ha : t[i]? = some t[i] := List.getElem?_eq_getElem hi
    have hlt : ((i : Int) < (t.length : Int)) := by omega
    have htk : t.take (i + 1) = t.take i ++ [t[i]] := List.take_succ_eq_append_getElem hi
    have hmem : t[i] ∈ t := List.getElem_mem hi
    generalize hv : t[i] = v at *
    have m1 : ¬ rid = s'.nx := by omega
    have m2 : ¬ tid = s'.nx := by omega
    have m3 : ¬ mid = s'.nx := by omega
    have p1 : tid < s'.nx + 1 := by omega
    have p2 : mid < s'.nx + 1 := by omega
    have hvl : v.cs.length = 3 := rfl
    have hfnd := X3_find (s := (s'.push (.var 25 [.bool false, .str [], .int .i64 0])).put s'.nx (.var 25 v.cs)) (tid := tid) (mid := mid) (ty := ty) (c := c) hK hT v tab (by simp; omega) (by simpa [St.get_put, St.get_push, m2] using k2) (by simp; omega) (by simpa [St.get_put, St.get_push, m3] using k3)
    cases hf : findF (bareV v) tab with
    | none =>
      rw [hf] at hfnd
      simp only [numV] at hfnd
      have hno : allIn tab t = false := by
        refine Bool.eq_false_iff.2 fun h => ?_
        have := List.all_eq_true.1 h v hmem
        rw [hf] at this
        cases this
      simp only [V.cs] at hfnd
      repeat' (first
        | refine WP.t ?_ | refine WP.k ?_ | refine WP.e ?_ | refine Qn ?_ | refine Qr ?_ | refine Qe ?_ | refine Bn ?_ | refine Br ?_ | refine Be ?_ | refine Bx (by decide) ?_
        | (refine RS.nl ?_; refine hk _ _ ?_; clear hk k)
        | ((first | refine RS.st fun A B hA hB => ?_ | refine RQ.st fun A B hA hB => ?_); simp [g0, g11, g12, g13, hlt, hi, ha, hw, hv, k1, relO, m1, m2, m3, p1, p2, V.cs, hfnd, anilCheck, onW_t, onW_f, onV_s]; first | ((first | refine hA _ _ _ ?_ ?_ | refine hA _ _ _ ?_ (by first | exact .inl rfl | exact .inr (by decide)) ?_); (focus (simp [g0, g11, g12, g13, hlt, hi, ha, hw, hv, k1, relO, m1, m2, m3, p1, p2, V.cs, hfnd, anilCheck] <;> omega)); clear hA hB A B) | (refine hB ?_; clear hA hB A B) | (refine onV_if ?_ ?_; (focus (first | omega | (refine ⟨?_, ?_⟩ <;> omega))); simp only [onV_s]; (first | refine hA _ _ _ ?_ ?_ | refine hA _ _ _ ?_ (by first | exact .inl rfl | exact .inr (by decide)) ?_); (focus (simp [g0, g11, g12, g13, hlt, hi, ha, hw, hv, k1, relO, m1, m2, m3, p1, p2, V.cs, hfnd, anilCheck] <;> omega)); clear hA hB A B))
        | (refine RQ.nl ?_; refine hk _ _ ?_; clear hk k)
        | refine WP.sr fun k hk => ?_ | refine WP.r fun k hk => ?_
        | refine WP.sd _ rfl fun k hk => ?_ | refine WP.d _ rfl fun k hk => ?_
        | (refine WP.cc fun A B hA hB => ?_; simp [g0, g11, g12, g13, hlt, hi, ha, hw, hv, k1, relO, m1, m2, m3, p1, p2, V.cs, hfnd, anilCheck, onB_t, onB_f]; first | (refine hA ?_; clear hA hB A B) | (refine hB ?_; clear hA hB A B) | (refine onB_if (fun h => hA ?_) (fun h => hB ?_) <;> clear hA hB A B))
        | refine WP.q ?_ | refine WP.b ?_)
      refine ⟨.inr rfl, .tup [.nsl, .bool false], by simp, ?_⟩
      rw [numsV, hno]
      exact frz_tup2 .nil (.same _ (.bool _))
    | some j =>
      rw [hf] at hfnd
      simp only [numV] at hfnd
      simp only [V.cs] at hfnd
      have hall2 : allIn tab (t.take (i + 1)) = true := by
        rw [htk, allIn, List.all_append, Bool.and_eq_true]
        exact ⟨hall, by simp [hf]⟩
      have hix : idx tab (bareV v) = j := by simp [idx, hf]
      rcases hB with ⟨rfl, g6⟩ | ⟨hi0, rd, hrd, hrd2, g6, hr6⟩
      · skip
        repeat' (first
          | refine WP.t ?_ | refine WP.k ?_ | refine WP.e ?_ | refine Qn ?_ | refine Qr ?_ | refine Qe ?_ | refine Bn ?_ | refine Br ?_ | refine Be ?_ | refine Bx (by decide) ?_
          | (refine RS.nl ?_; refine hk _ _ ?_; clear hk k)
          | ((first | refine RS.st fun A B hA hB => ?_ | refine RQ.st fun A B hA hB => ?_); simp [g0, g6, g11, g12, g13, hlt, hi, ha, hw, hv, k1, relO, m1, m2, m3, p1, p2, V.cs, hfnd, anilCheck, onW_t, onW_f, onV_s]; first | ((first | refine hA _ _ _ ?_ ?_ | refine hA _ _ _ ?_ (by first | exact .inl rfl | exact .inr (by decide)) ?_); (focus (simp [g0, g6, g11, g12, g13, hlt, hi, ha, hw, hv, k1, relO, m1, m2, m3, p1, p2, V.cs, hfnd, anilCheck] <;> omega)); clear hA hB A B) | (refine hB ?_; clear hA hB A B) | (refine onV_if ?_ ?_; (focus (first | omega | (refine ⟨?_, ?_⟩ <;> omega))); simp only [onV_s]; (first | refine hA _ _ _ ?_ ?_ | refine hA _ _ _ ?_ (by first | exact .inl rfl | exact .inr (by decide)) ?_); (focus (simp [g0, g6, g11, g12, g13, hlt, hi, ha, hw, hv, k1, relO, m1, m2, m3, p1, p2, V.cs, hfnd, anilCheck] <;> omega)); clear hA hB A B))
          | (refine RQ.nl ?_; refine hk _ _ ?_; clear hk k)
          | refine WP.sr fun k hk => ?_ | refine WP.r fun k hk => ?_
          | refine WP.sd _ rfl fun k hk => ?_ | refine WP.d _ rfl fun k hk => ?_
          | (refine WP.cc fun A B hA hB => ?_; simp [g0, g6, g11, g12, g13, hlt, hi, ha, hw, hv, k1, relO, m1, m2, m3, p1, p2, V.cs, hfnd, anilCheck, onB_t, onB_f]; first | (refine hA ?_; clear hA hB A B) | (refine hB ?_; clear hA hB A B) | (refine onB_if (fun h => hA ?_) (fun h => hB ?_) <;> clear hA hB A B))
          | refine WP.q ?_ | refine WP.b ?_)
        refine ⟨n - 1, by omega, 1, by omega, by simp [g0], by simp [g11], by simp [g12], by simp [wrap64 (x := 1) (by omega) (by omega)], by simp; omega, ?_, ?_, ?_, hall2, .inr ⟨by omega, s'.nx + 1, by omega, by simp, by simp, ?_⟩⟩
        · simp [St.get_push, m1, k1, hg, relO, show ¬ rid = s'.nx + 1 by omega]
        · simp [St.get_push, m2, k2, h2, show ¬ tid = s'.nx + 1 by omega]
        · simp [St.get_push, m3, k3, h4, show ¬ mid = s'.nx + 1 by omega]
        · rw [htk]
          simp [nums, idxs, hix]
      · have n1 : ¬ rd = s'.nx := by omega
        have n2 : ¬ rd = s'.nx + 1 := by omega
        have hmin : min i t.length = i := by omega
        have hby : (i + 1) * 8 ≤ 140737488355328 := by omega
        have hln : (nums (idxs tab (t.take i))).length = i := by simp [nums, idxs, hmin]
        have htl : List.take i (nums (idxs tab (t.take i))) = nums (idxs tab (t.take i)) := List.take_of_length_le (by omega)
        repeat' (first
          | refine WP.t ?_ | refine WP.k ?_ | refine WP.e ?_ | refine Qn ?_ | refine Qr ?_ | refine Qe ?_ | refine Bn ?_ | refine Br ?_ | refine Be ?_ | refine Bx (by decide) ?_
          | (refine RS.nl ?_; refine hk _ _ ?_; clear hk k)
          | ((first | refine RS.st fun A B hA hB => ?_ | refine RQ.st fun A B hA hB => ?_); simp [g0, g6, g11, g12, g13, hlt, hi, ha, hw, hv, k1, relO, m1, m2, m3, p1, p2, V.cs, hfnd, anilCheck, hr6, n1, n2, hmin, hby, hrd, hln, htl, onW_t, onW_f, onV_s]; first | ((first | refine hA _ _ _ ?_ ?_ | refine hA _ _ _ ?_ (by first | exact .inl rfl | exact .inr (by decide)) ?_); (focus (simp [g0, g6, g11, g12, g13, hlt, hi, ha, hw, hv, k1, relO, m1, m2, m3, p1, p2, V.cs, hfnd, anilCheck, hr6, n1, n2, hmin, hby, hrd, hln, htl] <;> omega)); clear hA hB A B) | (refine hB ?_; clear hA hB A B) | (refine onV_if ?_ ?_; (focus (first | omega | (refine ⟨?_, ?_⟩ <;> omega))); simp only [onV_s]; (first | refine hA _ _ _ ?_ ?_ | refine hA _ _ _ ?_ (by first | exact .inl rfl | exact .inr (by decide)) ?_); (focus (simp [g0, g6, g11, g12, g13, hlt, hi, ha, hw, hv, k1, relO, m1, m2, m3, p1, p2, V.cs, hfnd, anilCheck, hr6, n1, n2, hmin, hby, hrd, hln, htl] <;> omega)); clear hA hB A B))
          | (refine RQ.nl ?_; refine hk _ _ ?_; clear hk k)
          | refine WP.sr fun k hk => ?_ | refine WP.r fun k hk => ?_
          | refine WP.sd _ rfl fun k hk => ?_ | refine WP.d _ rfl fun k hk => ?_
          | (refine WP.cc fun A B hA hB => ?_; simp [g0, g6, g11, g12, g13, hlt, hi, ha, hw, hv, k1, relO, m1, m2, m3, p1, p2, V.cs, hfnd, anilCheck, hr6, n1, n2, hmin, hby, hrd, hln, htl, onB_t, onB_f]; first | (refine hA ?_; clear hA hB A B) | (refine hB ?_; clear hA hB A B) | (refine onB_if (fun h => hA ?_) (fun h => hB ?_) <;> clear hA hB A B))
          | refine WP.q ?_ | refine WP.b ?_)
        have r1 : ¬ rid = rd := by omega
        have r2 : ¬ tid = rd := by omega
        have r3 : ¬ mid = rd := by omega
        refine ⟨n - 1, by omega, i + 1, by omega, by simp [g0], by simp [g11], by simp [g12], by simp, by simp; omega, ?_, ?_, ?_, hall2, .inr ⟨by omega, s'.nx + 1, by omega, by simp, by simp, ?_⟩⟩
        · simp [St.get_push, St.get_drop, r1, m1, k1, hg, relO, show ¬ rid = s'.nx + 1 by omega]
        · simp [St.get_push, St.get_drop, r2, m2, k2, h2, show ¬ tid = s'.nx + 1 by omega]
        · simp [St.get_push, St.get_drop, r3, m3, k3, h4, show ¬ mid = s'.nx + 1 by omega]
        · have e2 : ∀ s2 : St, s2.nx = s'.nx + 1 → ∀ o, (s2.push o).get (s'.nx + 1) = some o := fun s2 h o => by rw [← h]; exact St.get_push_same _ _
          rw [e2 _ (by simp), htk]
          simp [nums, idxs, hix]
  · have hlt : ¬ ((i : Int) < (t.length : Int)) := by omega
    have he : i = t.length := by omega
    repeat' (first
      | refine WP.t ?_ | refine WP.k ?_ | refine WP.e ?_ | refine Qn ?_ | refine Qr ?_ | refine Qe ?_ | refine Bn ?_ | refine Br ?_ | refine Be ?_ | refine Bx (by decide) ?_
      | (refine RS.nl ?_; refine hk _ _ ?_; clear hk k)
      | ((first | refine RS.st fun A B hA hB => ?_ | refine RQ.st fun A B hA hB => ?_); simp [g0, g11, g12, g13, hlt, onW_t, onW_f, onV_s]; first | ((first | refine hA _ _ _ ?_ ?_ | refine hA _ _ _ ?_ (by first | exact .inl rfl | exact .inr (by decide)) ?_); (focus (simp [g0, g11, g12, g13, hlt] <;> omega)); clear hA hB A B) | (refine hB ?_; clear hA hB A B) | (refine onV_if ?_ ?_; (focus (first | omega | (refine ⟨?_, ?_⟩ <;> omega))); simp only [onV_s]; (first | refine hA _ _ _ ?_ ?_ | refine hA _ _ _ ?_ (by first | exact .inl rfl | exact .inr (by decide)) ?_); (focus (simp [g0, g11, g12, g13, hlt] <;> omega)); clear hA hB A B))
      | (refine RQ.nl ?_; refine hk _ _ ?_; clear hk k)
      | refine WP.sr fun k hk => ?_ | refine WP.r fun k hk => ?_
      | refine WP.sd _ rfl fun k hk => ?_ | refine WP.d _ rfl fun k hk => ?_
      | (refine WP.cc fun A B hA hB => ?_; simp [g0, g11, g12, g13, hlt, onB_t, onB_f]; first | (refine hA ?_; clear hA hB A B) | (refine hB ?_; clear hA hB A B) | (refine onB_if (fun h => hA ?_) (fun h => hB ?_) <;> clear hA hB A B))
      | refine WP.q ?_ | refine WP.b ?_)
    have ht : t.take i = t := by rw [he, List.take_length]
    rw [ht] at hall hB
    rw [numsV, hall]
    rcases hB with ⟨h0, g6⟩ | ⟨hi0, rd, hrd, hrd2, g6, hr6⟩
    · have : t = [] := List.eq_nil_of_length_eq_zero (by omega)
      subst this
      exact ⟨.inr rfl, .tup [.nsl, .bool true], by simp [g6], frz_tup2 .nil (.same _ (.bool _))⟩
    · exact ⟨.inr rfl, .tup [.ls rd 0 i, .bool true], by simp [g6], frz_tup2 (frz_nums hr6 hrd (by simp [idxs, he])) (.same _ (.bool _))⟩
end
end Go.Am
namespace Go.Am
open Go.Proofs
/-! ### what is bare, and what tells it -/
theorem bareV_bare (v : V) : bareV (bareV v) = bareV v := by
  obtain ⟨b, x, n⟩ := v
  cases b <;> rfl
theorem cmpV_bare {v u : V} : cmpV v u = 0 ↔ bareV v = bareV u := by
  rw [cmpV_z]
  obtain ⟨b, x, n⟩ := v
  obtain ⟨b', x', n'⟩ := u
  cases b <;> cases b' <;> simp [bareV, txtV]
  constructor
  · exact itoa_inj
  · intro h; rw [h]
theorem cmpT_bare : ∀ {a b : List V}, cmpT a b = 0 ↔ a.map bareV = b.map bareV
  | [], [] => by simp [cmpT]
  | [], v :: l => by simp [cmpT]
  | v :: l, [] => by simp [cmpT]
  | a :: x, b :: y => by
    rw [cmpT_cons, List.map_cons, List.map_cons, List.cons.injEq]
    by_cases h : cmpV a b = 0
    · rw [if_pos h, cmpT_bare (a := x) (b := y)]
      simp [cmpV_bare.1 h]
    · rw [if_neg h]
      constructor
      · intro h2; exact absurd h2 h
      · intro h2; exact absurd (cmpV_bare.2 h2.1) h
theorem findF_get {v : V} : ∀ {vs : List V} {i : Nat}, findF v vs = some i → vs[i]? = some v
  | [], i, h => by simp [findF] at h
  | u :: us, i, h => by
    simp only [findF] at h
    by_cases e : v = u
    · simp [e] at h; subst h; simp [e]
    · simp only [e, if_false] at h
      obtain ⟨j, hj, rfl⟩ := Option.map_eq_some_iff.1 h
      simpa using findF_get hj
theorem idx_inj {tab : List V} {v u : V} (h1 : (findF v tab).isSome = true) (h2 : (findF u tab).isSome = true) (h : idx tab v = idx tab u) : v = u := by
  obtain ⟨i, hi⟩ := Option.isSome_iff_exists.1 h1
  obtain ⟨j, hj⟩ := Option.isSome_iff_exists.1 h2
  simp only [idx, hi, hj, Option.getD_some] at h
  subst h
  have := (findF_get hi).symm.trans (findF_get hj)
  exact Option.some.inj this
theorem idxs_inj {tab : List V} : ∀ {t u : List V}, allIn tab t = true → allIn tab u = true → idxs tab t = idxs tab u → t.map bareV = u.map bareV
  | [], [], _, _, _ => rfl
  | [], u :: us, _, _, h => by simp [idxs] at h
  | v :: t, [], _, _, h => by simp [idxs] at h
  | v :: t, u :: us, h1, h2, h => by
    simp only [idxs, List.map_cons, List.cons.injEq] at h
    simp only [allIn, List.all_cons, Bool.and_eq_true] at h1 h2
    rw [List.map_cons, List.map_cons, idx_inj h1.1 h2.1 h.1, idxs_inj h1.2 h2.2 h.2]
theorem idxs_bare {tab : List V} {t u : List V} (h : t.map bareV = u.map bareV) : idxs tab t = idxs tab u := by
  have e : ∀ t : List V, idxs tab t = (t.map bareV).map (idx tab) := fun t => by simp [idxs]
  rw [e, e, h]
theorem allIn_bare {tab : List V} {t u : List V} (h : t.map bareV = u.map bareV) : allIn tab t = allIn tab u := by
  have e : ∀ t : List V, allIn tab t = (t.map bareV).all fun v => (findF v tab).isSome := fun t => by simp [allIn, List.all_map, Function.comp_def]
  rw [e, e, h]
theorem nameT_inj : ∀ {l m : List Nat}, nameT l = nameT m → l = m
  | [], [], _ => rfl
  | [], n :: m, h => by simp [nameT, nameN] at h
  | n :: l, [], h => by simp [nameT, nameN] at h
  | n :: l, k :: m, h => by
    have hi : ∀ n : Nat, Lib.itoa (n : Int) = Lib.decDigits n := fun n => by unfold Lib.itoa; rw [if_neg (by omega)]; simp
    have no : ∀ u, ∀ x ∈ Lib.decDigits u, x ≠ 32 := fun u x hx e => by
      have := dec_dig u x hx
      subst e
      simp [isDig] at this
    have h' : Lib.decDigits n ++ 32 :: nameT l = Lib.decDigits k ++ 32 :: nameT m := by
      simpa [nameT, nameN, hi] using h
    obtain ⟨h1, h2⟩ := split_at h' (no _) (no _)
    rw [dec_inj h1, nameT_inj h2]
/-! ### a relation -/
def rowC (tab : List V) (r : List V × Nat) : List AV := [.sl (r.1.map V.cs), .sl (nums (idxs tab r.1)), .int .i64 (r.2 : Int)]
def atL (tab : List V) : Nat → List (List V × Nat) → List (AV × AV)
  | _, [] => []
  | k, r :: R => (.str (nameT (idxs tab r.1)), .int .i64 (k : Int)) :: atL tab (k + 1) R
def atF (x : List UInt8) (tab : List V) : List (List V × Nat) → Option Nat
  | [] => none
  | r :: R => if x = nameT (idxs tab r.1) then some 0 else (atF x tab R).map (· + 1)
structure RelOk (ar : Nat) (tab : List V) (R : List (List V × Nat)) : Prop where
  arle : ar ≤ 6
  row : ∀ r ∈ R, r.1.length = ar ∧ allIn tab r.1 = true ∧ r.1.map bareV = r.1 ∧ r.2 ≤ 2
  nd : (R.map (·.1)).Nodup
  len : tab.length ≤ 6 * R.length
structure RelD (s : St) (l lt : List Nat) (rid tid atid ar : Nat) (tab : List V) (R : List (List V × Nat)) (rw : AV) : Prop where
  ht : Tab s lt tid tab
  sub : ∀ i ∈ lt, i ∈ l
  hr : rid ∈ l
  hat : atid ∈ l
  nr : rid ∉ lt
  na : atid ∉ lt
  ra : rid ≠ atid
  own : Own s l
  g : s.get rid = some (relO tid ar rw atid)
  a : s.get atid = some (.map (atL tab 0 R))
  rows : (R = [] ∧ rw = .nsl) ∨ (R ≠ [] ∧ ∃ rd, rd ∈ l ∧ rd ∉ lt ∧ rd ≠ rid ∧ rd ≠ atid ∧ rw = .ls rd 0 R.length ∧ s.get rd = some (.row 3 (true, 75) (R.map (rowC tab))))
  ok : RelOk ar tab R
def RelP (s : St) (l : List Nat) (rid ar : Nat) (R : List (List V × Nat)) : Prop := ∃ lt tid atid tab rw, RelD s l lt rid tid atid ar tab R rw
theorem atF_some {tab : List V} {t : List V} (ht : allIn tab t = true) : ∀ {R : List (List V × Nat)}, (∀ r ∈ R, allIn tab r.1 = true ∧ r.1.map bareV = r.1) →
    ((atF (nameT (idxs tab t)) tab R).isSome = true ↔ t.map bareV ∈ R.map (·.1))
  | [], _ => by simp [atF]
  | r :: R, h => by
    have h1 := h r (by simp)
    rw [atF, List.map_cons, List.mem_cons]
    by_cases e : nameT (idxs tab t) = nameT (idxs tab r.1)
    · rw [if_pos e]
      have := idxs_inj ht h1.1 (nameT_inj e)
      rw [h1.2] at this
      simp [this]
    · rw [if_neg e, Option.isSome_map, atF_some ht fun r hr => h r (by simp [hr])]
      constructor
      · exact .inr
      · rintro (h2 | h2)
        · exact absurd (by rw [idxs_bare (tab := tab) (t := t) (u := r.1) (by rw [h2, h1.2])]) e
        · exact h2
def hasR (R : List (List V × Nat)) (t : List V) : Bool := decide (t.map bareV ∈ R.map (·.1))
section
variable {K : Nat} {gw : World} {s : St}
attribute [local simp] awanted xop zOf zrow aop ev T0 Slots.put Slots.set Slots.get awr WOk AV.may ofConst abinop aint isConst St.get_push St.get_put St.live AV.fit AV.cells AV.one fieldOf afieldAddr aload ofCells astore splice May eqres env_ti FinP FinZ FinW ares aresL ares1 Fns.addP Fns.add Fns.a0 Fns.a1 Fns.a2 Fns.a3 Fns.a4 abuiltin alenOk alen aindex elemOfT elemId abuildSlice afill chunks ard aappend isSS AV.isStr aminmax placesOf abuild afield aidx isStrD isStrDesc astrop aslice asliceOk abound arange anext aextract aunop aeq AV.ck avseq aveq aconv aconvert onB_t onB_f List.range_succ ti0 ti1 ti2 ti3 ti4 ti5 ti6 ti7 ti8 ti9 ti10 ti11 ti12 ti13 ti14 ti15 ti16 ti17 ti18 ti19 ti20 ti21 ti22 ti23 ti24 ti25 ti26 ti27 ti28 ti29 ti30 ti31 ti32 ti33 ti34 ti35 ti36 ti37 ti38 ti39 ti40 ti41 ti42 ti43 ti44 ti45 ti46 ti47 ti48 ti49 ti50 ti51 ti52 ti53 ti54 ti55 ti56 ti57 ti58 ti59 ti60 ti61 ti62 ti63 ti64 ti65 ti66 ti67 ti68 ti69 ti70 ti71 ti72 ti73 ti74 ti75 ti76 ti77 ti78 ti79 ti80 ti81 ti82 ti83 ti84 ti85 ti86 ti87 ti88 ti89 ti90 ti91 ti92 ti93 ti94 ti95 ti96 ti97 ti98 ti99 ti100 ti101 ti102 ti103 ti104 ti105 ti106 ti107 ti108 ti109 ti110 ti111 ti112 ti113 ti114 ti115 ti116 ti117 ti118 ti119 ti120 ti121 ti122 ti123 ti124 ti125 ti126 ti127 ti128 ti129 ti130 ti131 ti132 ti133 ti134 ti135 ti136 ti137 ti138 ti139 ti140 ti141 ti142 ti143 ti144 ti145 ti146 ti147
theorem miS : miOf (env K gw) 67 = some ⟨9, false, [.s], .int .i64 0⟩ := by
  have h1 : mzOf Tryd.prog 3 = some (.int .i64 0) := by kernel_rfl
  have h2 : kindsT (env K gw) 9 9 = some [.s] := by
    simp [kindsT, kindsD, env_ti, ti9]
  simp only [miOf, env_ti, ti67, ti9, h2]
  simp only [env_P, h1]
theorem akok_str (x : List UInt8) : akok false [.s] (.str x) = true := by simp [akok, AV.cells, AV.ck]
theorem afind_at (x : List UInt8) (tab : List V) : ∀ (R : List (List V × Nat)) (k : Nat), afind false [.s] (.str x) (atL tab k R) = some ((atF x tab R).map fun i => (i, .int .i64 ((k + i : Nat) : Int)))
  | [], k => rfl
  | r :: R, k => by
    have e : avseq (AV.str x).cells (AV.str (nameT (idxs tab r.1))).cells = some (decide (x = nameT (idxs tab r.1))) := by
      by_cases h : x = nameT (idxs tab r.1) <;> simp [AV.cells, avseq, aveq, h]
    simp only [atL, afind, akok_str, if_true, e, atF, afind_at x tab R (k + 1)]
    by_cases h : x = nameT (idxs tab r.1)
    · simp [h]
    · simp only [h, decide_false, if_false]
      cases atF x tab R with
      | none => rfl
      | some i => simp; omega
theorem atL_snoc (tab : List V) (t : List V × Nat) : ∀ (R : List (List V × Nat)) (k : Nat), atL tab k (R ++ [t]) = atL tab k R ++ [(.str (nameT (idxs tab t.1)), .int .i64 ((k + R.length : Nat) : Int))]
  | [], k => by simp [atL]
  | r :: R, k => by
    simp only [List.cons_append, atL, atL_snoc tab t R (k + 1), List.length_cons, List.cons.injEq, List.append_cancel_left_eq, Prod.mk.injEq, AV.int.injEq, true_and, and_true]
    omega
end
end Go.Am
namespace Go.Am
open Go.Proofs
def numsP : List AV → St → AV → St → List Nat → Prop := fun xs s r s' l => ∀ rid t, xs = [.ptr rid 0, .sl (t.map V.cs)] → ∀ tid ar rw atid ty mid c tab, s.get rid = some (relO tid ar rw atid) →
  s.get tid = some (.var ty (.map mid :: c)) → s.get mid = some (.map (numF 0 tab)) → r = numsV tab t ∧ s' = s ∧ l = []
def nameP : List AV → St → AV → St → List Nat → Prop := fun xs s r s' l => ∀ ns, xs = [.sl (nums ns)] → r = .str (nameT ns) ∧ s' = s ∧ l = []
theorem map_cs_inj : ∀ {t u : List V}, t.map V.cs = u.map V.cs → t = u
  | [], [], _ => rfl
  | [], u :: us, h => by simp at h
  | v :: t, [], h => by simp at h
  | v :: t, u :: us, h => by
    simp only [List.map_cons, List.cons.injEq] at h
    rw [cs_inj h.1, map_cs_inj h.2]
theorem nums_inj : ∀ {t u : List Nat}, nums t = nums u → t = u
  | [], [], _ => rfl
  | [], u :: us, h => by simp [nums] at h
  | v :: t, [], h => by simp [nums] at h
  | v :: t, u :: us, h => by
    simp only [nums, List.map_cons, List.cons.injEq, AV.int.injEq, true_and, and_true] at h
    have : v = u := by omega
    rw [this, nums_inj (t := t) (u := us) h.2]
theorem findF_lt {tab : List V} {v : V} (h : (findF v tab).isSome = true) : idx tab v < tab.length := by
  obtain ⟨i, hi⟩ := Option.isSome_iff_exists.1 h
  have := findF_get hi
  simp only [idx, hi, Option.getD_some]
  exact (List.getElem?_eq_some_iff.1 this).1
theorem nameT_len : ∀ (l : List Nat), (∀ n ∈ l, n < 9223372036854775807) → (nameT l).length ≤ 22 * l.length
  | [], _ => by simp [nameT]
  | n :: l, h => by
    have h1 := nameT_len l fun n hn => h n (by simp [hn])
    have h2 := Lib.itoa_length_le (n : Int) (by omega) (by have := h n (by simp); omega)
    have : nameT (n :: l) = nameN n ++ nameT l := rfl
    rw [this, List.length_append]
    simp only [nameN, List.length_append, List.length_cons, List.length_nil]
    omega
theorem idxs_lt {tab t : List V} (h : allIn tab t = true) (hl : tab.length < 9223372036854775807) : ∀ n ∈ idxs tab t, n < 9223372036854775807 := fun n hn => by
  obtain ⟨v, hv, rfl⟩ := List.mem_map.1 hn
  have := findF_lt (List.all_eq_true.1 h v hv)
  omega
section
variable {K : Nat} {gw : World} {s : St}
attribute [local simp] awanted xop zOf zrow aop ev T0 Slots.put Slots.set Slots.get awr WOk AV.may ofConst abinop aint isConst St.get_push St.get_put St.live AV.fit AV.cells AV.one fieldOf afieldAddr aload ofCells astore splice May eqres env_ti FinP FinZ FinW ares aresL ares1 Fns.addP Fns.add Fns.a0 Fns.a1 Fns.a2 Fns.a3 Fns.a4 abuiltin alenOk alen aindex elemOfT elemId abuildSlice afill chunks ard aappend isSS AV.isStr aminmax placesOf abuild afield aidx isStrD isStrDesc astrop aslice asliceOk abound arange anext aextract aunop aeq AV.ck avseq aveq aconv aconvert onB_t onB_f List.range_succ ti0 ti1 ti2 ti3 ti4 ti5 ti6 ti7 ti8 ti9 ti10 ti11 ti12 ti13 ti14 ti15 ti16 ti17 ti18 ti19 ti20 ti21 ti22 ti23 ti24 ti25 ti26 ti27 ti28 ti29 ti30 ti31 ti32 ti33 ti34 ti35 ti36 ti37 ti38 ti39 ti40 ti41 ti42 ti43 ti44 ti45 ti46 ti47 ti48 ti49 ti50 ti51 ti52 ti53 ti54 ti55 ti56 ti57 ti58 ti59 ti60 ti61 ti62 ti63 ti64 ti65 ti66 ti67 ti68 ti69 ti70 ti71 ti72 ti73 ti74 ti75 ti76 ti77 ti78 ti79 ti80 ti81 ti82 ti83 ti84 ti85 ti86 ti87 ti88 ti89 ti90 ti91 ti92 ti93 ti94 ti95 ti96 ti97 ti98 ti99 ti100 ti101 ti102 ti103 ti104 ti105 ti106 ti107 ti108 ti109 ti110 ti111 ti112 ti113 ti114 ti115 ti116 ti117 ti118 ti119 ti120 ti121 ti122 ti123 ti124 ti125 ti126 ti127 ti128 ti129 ti130 ti131 ti132 ti133 ti134 ti135 ti136 ti137 ti138 ti139 ti140 ti141 ti142 ti143 ti144 ti145 ti146 ti147
noncomputable def X4 (K : Nat) (gw : World) : Fns := ((X3 K gw).ch (env K gw) 38 numsP).ch (env K gw) 32 nameP
theorem X4_ok (hK : 0 < K) (hT : Tens gw) : FOk (env K gw) (X4 K gw) := ((X3_ok hK hT).ch).ch
theorem X4_nums (hK : 0 < K) (hT : Tens gw) {rid tid mid ar atid : Nat} {rw : AV} {ty : TypeId} {c : List AV} {tab : List V} (t : List V) (hl : t.length < 1073741824)
    (hr : rid < s.nx) (hg : s.get rid = some (relO tid ar rw atid)) (h1 : tid < s.nx) (h2 : s.get tid = some (.var ty (.map mid :: c))) (h3 : mid < s.nx) (h4 : s.get mid = some (.map (numF 0 tab))) :
    X4 K gw 38 [.ptr rid 0, .sl (t.map V.cs)] s = some (numsV tab t, s, []) := by
  have hp : numsP [.ptr rid 0, .sl (t.map V.cs)] s (numsV tab t) s [] := by
    intro rid' t' he tid' ar' rw' atid' ty' mid' c' tab' hg' h2' h4'
    simp only [List.cons.injEq, AV.ptr.injEq, AV.sl.injEq, and_true] at he
    obtain ⟨rfl, he⟩ := he
    obtain rfl := map_cs_inj he
    rw [hg] at hg'
    simp only [relO, Option.some.injEq, AObj.var.injEq, List.cons.injEq, AV.ptr.injEq, true_and, and_true] at hg'
    obtain ⟨rfl, _⟩ := hg'
    rw [h2] at h2'
    simp only [Option.some.injEq, AObj.var.injEq, List.cons.injEq, AV.map.injEq] at h2'
    obtain ⟨_, rfl, _⟩ := h2'
    rw [h4] at h4'
    simp only [Option.some.injEq, AObj.map.injEq] at h4'
    rw [numF_inj _ _ _ h4']
    exact ⟨rfl, rfl, rfl⟩
  have hF := ft_nums (K := K) (gw := gw) hK hT t hl hr hg h1 h2 h3 h4
  obtain ⟨r, s', l, h5, h6⟩ := Fns.ch_some (F := X3 K gw) (P := numsP) (l := []) (hF.wider (W' := fun i => i ∈ ([] : List Nat)) fun i h => h.elim) hp
  obtain ⟨rfl, rfl, rfl⟩ := h6 rid t rfl tid ar rw atid ty mid c tab hg h2 h4
  unfold X4
  rw [Fns.ch_other (by decide)]
  exact h5
theorem X4_name (hK : 0 < K) (hT : Tens gw) (l : List Nat) (hl : l.length < 1073741824) (hn : ∀ n ∈ l, n < 9223372036854775807) :
    X4 K gw 32 [.sl (nums l)] s = some (.str (nameT l), s, []) := by
  have hp : nameP [.sl (nums l)] s (.str (nameT l)) s [] := by
    intro ns he
    simp only [List.cons.injEq, AV.sl.injEq, and_true] at he
    obtain rfl := nums_inj he
    exact ⟨rfl, rfl, rfl⟩
  have hln := nameT_len l hn
  have hF := ft_name (s := s) (K := K) (gw := gw) hK hT l hl hn (by omega)
  obtain ⟨r, s', l', h5, h6⟩ := Fns.ch_some (P := nameP) (F := (X3 K gw).ch (env K gw) 38 numsP) (l := []) (hF.wider (W' := fun i => i ∈ ([] : List Nat)) fun i h => h.elim) hp
  obtain ⟨rfl, rfl, rfl⟩ := h6 l rfl
  exact h5
theorem Tab.var {l : List Nat} {tid : Nat} {vs : List V} (h : Tab s l tid vs) : ∃ mid c, tid < s.nx ∧ mid < s.nx ∧ tid ∈ l ∧ mid ∈ l ∧ s.get tid = some (.var 89 (.map mid :: c)) ∧ s.get mid = some (.map (numF 0 vs)) := by
  obtain ⟨mid, h1, h2, h3, h4, h5, h6⟩ := h
  rcases h6 with ⟨_, b⟩ | ⟨_, rd, _, _, _, b, _⟩
  · exact ⟨mid, _, h4 _ h1, h4 _ h2, h1, h2, b, h5⟩
  · exact ⟨mid, _, h4 _ h1, h4 _ h2, h1, h2, b, h5⟩
theorem ft_Has (hK : 0 < K) (hT : Tens gw) {l lt : List Nat} {rid tid atid ar : Nat} {tab : List V} {R : List (List V × Nat)} {rw : AV} (h : RelD s l lt rid tid atid ar tab R rw) (t : List V) (hl : t.length < 1073741824) (hR : R.length < 16777216) :
    FT (env K gw) NoW 17 [.ptr rid 0, .sl (t.map V.cs)] s (.bool (decide (t.length = ar) && hasR R t)) s := by
  refine FT.pure (fn := Tryd.f17) (X4_ok hK hT) mixed Tryd.func17 (by kernel_rfl) (by rfl) rfl rfl (by simp) rfl fun μ w => ?_
  obtain ⟨mid, c, q1, q2, q3, q4, q5, q6⟩ := h.ht.var
  have hg := h.g
  have hr := (h.own rid h.hr).1
  by_cases hc : t.length = ar
  · have hnu : ∀ s2 : St, s2 = s → X4 K gw 38 [.ptr rid 0, .sl (t.map V.cs)] s2 = some (numsV tab t, s2, []) := fun s2 e => by
      subst e
      exact X4_nums hK hT t hl hr hg q1 q5 q2 q6
    have hnu1 := hnu s rfl
    cases ha : allIn tab t with
    | false =>
      have hno : hasR R t = false := by
        refine decide_eq_false fun hm => ?_
        obtain ⟨r, hr1, hr2⟩ := List.mem_map.1 hm
        have h3 := h.ok.row r hr1
        have : allIn tab t = allIn tab r.1 := allIn_bare (by rw [h3.2.2.1]; exact hr2.symm)
        rw [this, h3.2.1] at ha
        cases ha
      simp only [numsV, ha] at hnu1
      simp only [Bool.false_eq_true, if_false] at hnu1
      repeat' (first
        | refine WP.t ?_ | refine WP.k ?_ | refine WP.e ?_ | refine Qn ?_ | refine Qr ?_ | refine Qe ?_ | refine Bn ?_ | refine Br ?_ | refine Be ?_ | refine Bx (by decide) ?_
        | (refine RS.nl ?_; refine hk _ _ ?_; clear hk k)
        | ((first | refine RS.st fun A B hA hB => ?_ | refine RQ.st fun A B hA hB => ?_); simp [hg, relO, hr, hc, hnu1, anilCheck, onW_t, onW_f, onV_s]; first | ((first | refine hA _ _ _ ?_ ?_ | refine hA _ _ _ ?_ (by first | exact .inl rfl | exact .inr (by decide)) ?_); (focus (simp [hg, relO, hr, hc, hnu1, anilCheck] <;> omega)); clear hA hB A B) | (refine hB ?_; clear hA hB A B) | (refine onV_if ?_ ?_; (focus (first | omega | (refine ⟨?_, ?_⟩ <;> omega))); simp only [onV_s]; (first | refine hA _ _ _ ?_ ?_ | refine hA _ _ _ ?_ (by first | exact .inl rfl | exact .inr (by decide)) ?_); (focus (simp [hg, relO, hr, hc, hnu1, anilCheck] <;> omega)); clear hA hB A B))
        | (refine RQ.nl ?_; refine hk _ _ ?_; clear hk k)
        | refine WP.sr fun k hk => ?_ | refine WP.r fun k hk => ?_
        | refine WP.sd _ rfl fun k hk => ?_ | refine WP.d _ rfl fun k hk => ?_
        | (refine WP.cc fun A B hA hB => ?_; simp [hg, relO, hr, hc, hnu1, anilCheck, onB_t, onB_f]; first | (refine hA ?_; clear hA hB A B) | (refine hB ?_; clear hA hB A B) | (refine onB_if (fun h => hA ?_) (fun h => hB ?_) <;> clear hA hB A B))
        | refine WP.q ?_ | refine WP.b ?_)
      simp [hno]
    | true =>
      have hat := h.a
      have hr2 := (h.own atid h.hat).1
      have hlen := h.ok.len
      have hnm : ∀ s2 : St, X4 K gw 32 [.sl (nums (idxs tab t))] s2 = some (.str (nameT (idxs tab t)), s2, []) := fun s2 =>
        X4_name hK hT _ (by simp only [idxs, List.length_map]; omega) (idxs_lt ha (by omega))
      have hlk : alookup (env K gw) s 67 (.map atid) (.str (nameT (idxs tab t))) true = some (numV (atF (nameT (idxs tab t)) tab R)) := by
        simp only [alookup, miS, akok_str, if_true, hat, afind_at]
        cases atF (nameT (idxs tab t)) tab R <;> simp [numV]
      have hiff := atF_some (tab := tab) ha (R := R) fun r hr => ⟨(h.ok.row r hr).2.1, (h.ok.row r hr).2.2.1⟩
      simp only [numsV, ha] at hnu1
      simp only [if_true] at hnu1
      cases hf : atF (nameT (idxs tab t)) tab R with
      | none =>
        have hno : hasR R t = false := decide_eq_false fun hm => by
          have := hiff.2 hm
          rw [hf] at this
          cases this
        rw [hf] at hlk
        simp only [numV] at hlk
        repeat' (first
          | refine WP.t ?_ | refine WP.k ?_ | refine WP.e ?_ | refine Qn ?_ | refine Qr ?_ | refine Qe ?_ | refine Bn ?_ | refine Br ?_ | refine Be ?_ | refine Bx (by decide) ?_
          | (refine RS.nl ?_; refine hk _ _ ?_; clear hk k)
          | ((first | refine RS.st fun A B hA hB => ?_ | refine RQ.st fun A B hA hB => ?_); simp [hg, relO, hr, hc, hnu1, hnm, hlk, anilCheck, onW_t, onW_f, onV_s]; first | ((first | refine hA _ _ _ ?_ ?_ | refine hA _ _ _ ?_ (by first | exact .inl rfl | exact .inr (by decide)) ?_); (focus (simp [hg, relO, hr, hc, hnu1, hnm, hlk, anilCheck] <;> omega)); clear hA hB A B) | (refine hB ?_; clear hA hB A B) | (refine onV_if ?_ ?_; (focus (first | omega | (refine ⟨?_, ?_⟩ <;> omega))); simp only [onV_s]; (first | refine hA _ _ _ ?_ ?_ | refine hA _ _ _ ?_ (by first | exact .inl rfl | exact .inr (by decide)) ?_); (focus (simp [hg, relO, hr, hc, hnu1, hnm, hlk, anilCheck] <;> omega)); clear hA hB A B))
          | (refine RQ.nl ?_; refine hk _ _ ?_; clear hk k)
          | refine WP.sr fun k hk => ?_ | refine WP.r fun k hk => ?_
          | refine WP.sd _ rfl fun k hk => ?_ | refine WP.d _ rfl fun k hk => ?_
          | (refine WP.cc fun A B hA hB => ?_; simp [hg, relO, hr, hc, hnu1, hnm, hlk, anilCheck, onB_t, onB_f]; first | (refine hA ?_; clear hA hB A B) | (refine hB ?_; clear hA hB A B) | (refine onB_if (fun h => hA ?_) (fun h => hB ?_) <;> clear hA hB A B))
          | refine WP.q ?_ | refine WP.b ?_)
        simp [hno]
      | some i =>
        have hyes : hasR R t = true := decide_eq_true (hiff.1 (by rw [hf]; rfl))
        rw [hf] at hlk
        simp only [numV] at hlk
        repeat' (first
          | refine WP.t ?_ | refine WP.k ?_ | refine WP.e ?_ | refine Qn ?_ | refine Qr ?_ | refine Qe ?_ | refine Bn ?_ | refine Br ?_ | refine Be ?_ | refine Bx (by decide) ?_
          | (refine RS.nl ?_; refine hk _ _ ?_; clear hk k)
          | ((first | refine RS.st fun A B hA hB => ?_ | refine RQ.st fun A B hA hB => ?_); simp [hg, relO, hr, hc, hnu1, hnm, hlk, anilCheck, onW_t, onW_f, onV_s]; first | ((first | refine hA _ _ _ ?_ ?_ | refine hA _ _ _ ?_ (by first | exact .inl rfl | exact .inr (by decide)) ?_); (focus (simp [hg, relO, hr, hc, hnu1, hnm, hlk, anilCheck] <;> omega)); clear hA hB A B) | (refine hB ?_; clear hA hB A B) | (refine onV_if ?_ ?_; (focus (first | omega | (refine ⟨?_, ?_⟩ <;> omega))); simp only [onV_s]; (first | refine hA _ _ _ ?_ ?_ | refine hA _ _ _ ?_ (by first | exact .inl rfl | exact .inr (by decide)) ?_); (focus (simp [hg, relO, hr, hc, hnu1, hnm, hlk, anilCheck] <;> omega)); clear hA hB A B))
          | (refine RQ.nl ?_; refine hk _ _ ?_; clear hk k)
          | refine WP.sr fun k hk => ?_ | refine WP.r fun k hk => ?_
          | refine WP.sd _ rfl fun k hk => ?_ | refine WP.d _ rfl fun k hk => ?_
          | (refine WP.cc fun A B hA hB => ?_; simp [hg, relO, hr, hc, hnu1, hnm, hlk, anilCheck, onB_t, onB_f]; first | (refine hA ?_; clear hA hB A B) | (refine hB ?_; clear hA hB A B) | (refine onB_if (fun h => hA ?_) (fun h => hB ?_) <;> clear hA hB A B))
          | refine WP.q ?_ | refine WP.b ?_)
        simp [hyes, hc]
  · have hc2 : ¬ ((t.length : Int) = (ar : Int)) := by omega
    have hb : ((t.length : Int) != (ar : Int)) = true := by simpa using hc2
    repeat' (first
      | refine WP.t ?_ | refine WP.k ?_ | refine WP.e ?_ | refine Qn ?_ | refine Qr ?_ | refine Qe ?_ | refine Bn ?_ | refine Br ?_ | refine Be ?_ | refine Bx (by decide) ?_
      | (refine RS.nl ?_; refine hk _ _ ?_; clear hk k)
      | ((first | refine RS.st fun A B hA hB => ?_ | refine RQ.st fun A B hA hB => ?_); simp [hg, relO, hr, hb, anilCheck, onW_t, onW_f, onV_s]; first | ((first | refine hA _ _ _ ?_ ?_ | refine hA _ _ _ ?_ (by first | exact .inl rfl | exact .inr (by decide)) ?_); (focus (simp [hg, relO, hr, hb, anilCheck] <;> omega)); clear hA hB A B) | (refine hB ?_; clear hA hB A B) | (refine onV_if ?_ ?_; (focus (first | omega | (refine ⟨?_, ?_⟩ <;> omega))); simp only [onV_s]; (first | refine hA _ _ _ ?_ ?_ | refine hA _ _ _ ?_ (by first | exact .inl rfl | exact .inr (by decide)) ?_); (focus (simp [hg, relO, hr, hb, anilCheck] <;> omega)); clear hA hB A B))
      | (refine RQ.nl ?_; refine hk _ _ ?_; clear hk k)
      | refine WP.sr fun k hk => ?_ | refine WP.r fun k hk => ?_
      | refine WP.sd _ rfl fun k hk => ?_ | refine WP.d _ rfl fun k hk => ?_
      | (refine WP.cc fun A B hA hB => ?_; simp [hg, relO, hr, hb, anilCheck, onB_t, onB_f]; first | (refine hA ?_; clear hA hB A B) | (refine hB ?_; clear hA hB A B) | (refine onB_if (fun h => hA ?_) (fun h => hB ?_) <;> clear hA hB A B))
      | refine WP.q ?_ | refine WP.b ?_)
    simp [hc]
theorem ft_Has0 (x : AV) : FT (env K gw) NoW 17 [.np, x] s (.bool false) s := by
  refine FT.pure (fn := Tryd.f17) F0_ok mixed Tryd.func17 (by kernel_rfl) (by rfl) rfl rfl (by simp) rfl fun μ w => ?_
  repeat' (first
    | refine WP.t ?_ | refine WP.k ?_ | refine WP.e ?_ | refine Qn ?_ | refine Qr ?_ | refine Qe ?_ | refine Bn ?_ | refine Br ?_ | refine Be ?_ | refine Bx (by decide) ?_
    | (refine RS.nl ?_; refine hk _ _ ?_; clear hk k)
    | ((first | refine RS.st fun A B hA hB => ?_ | refine RQ.st fun A B hA hB => ?_); simp [onW_t, onW_t, onW_f, onV_s]; first | ((first | refine hA _ _ _ ?_ ?_ | refine hA _ _ _ ?_ (by first | exact .inl rfl | exact .inr (by decide)) ?_); (focus (simp [onW_t] <;> omega)); clear hA hB A B) | (refine hB ?_; clear hA hB A B) | (refine onV_if ?_ ?_; (focus (first | omega | (refine ⟨?_, ?_⟩ <;> omega))); simp only [onV_s]; (first | refine hA _ _ _ ?_ ?_ | refine hA _ _ _ ?_ (by first | exact .inl rfl | exact .inr (by decide)) ?_); (focus (simp [onW_t] <;> omega)); clear hA hB A B))
    | (refine RQ.nl ?_; refine hk _ _ ?_; clear hk k)
    | refine WP.sr fun k hk => ?_ | refine WP.r fun k hk => ?_
    | refine WP.sd _ rfl fun k hk => ?_ | refine WP.d _ rfl fun k hk => ?_
    | (refine WP.cc fun A B hA hB => ?_; simp [onW_t, onB_t, onB_f]; first | (refine hA ?_; clear hA hB A B) | (refine hB ?_; clear hA hB A B) | (refine onB_if (fun h => hA ?_) (fun h => hB ?_) <;> clear hA hB A B))
    | refine WP.q ?_ | refine WP.b ?_)
  simp
theorem ft_Len (hK : 0 < K) (hT : Tens gw) {l lt : List Nat} {rid tid atid ar : Nat} {tab : List V} {R : List (List V × Nat)} {rw : AV} (h : RelD s l lt rid tid atid ar tab R rw) :
    FT (env K gw) NoW 13 [.ptr rid 0] s (.int .i64 (R.length : Int)) s := by
  refine FT.pure (fn := Tryd.f13) F0_ok mixed Tryd.func13 (by kernel_rfl) (by rfl) rfl rfl (by simp) rfl fun μ w => ?_
  have hg := h.g
  rcases h.rows with ⟨rfl, rfl⟩ | ⟨hne, rd, _, _, _, _, rfl, hrd⟩
  · skip
    repeat' (first
      | refine WP.t ?_ | refine WP.k ?_ | refine WP.e ?_ | refine Qn ?_ | refine Qr ?_ | refine Qe ?_ | refine Bn ?_ | refine Br ?_ | refine Be ?_ | refine Bx (by decide) ?_
      | (refine RS.nl ?_; refine hk _ _ ?_; clear hk k)
      | ((first | refine RS.st fun A B hA hB => ?_ | refine RQ.st fun A B hA hB => ?_); simp [hg, relO, anilCheck, onW_t, onW_f, onV_s]; first | ((first | refine hA _ _ _ ?_ ?_ | refine hA _ _ _ ?_ (by first | exact .inl rfl | exact .inr (by decide)) ?_); (focus (simp [hg, relO, anilCheck] <;> omega)); clear hA hB A B) | (refine hB ?_; clear hA hB A B) | (refine onV_if ?_ ?_; (focus (first | omega | (refine ⟨?_, ?_⟩ <;> omega))); simp only [onV_s]; (first | refine hA _ _ _ ?_ ?_ | refine hA _ _ _ ?_ (by first | exact .inl rfl | exact .inr (by decide)) ?_); (focus (simp [hg, relO, anilCheck] <;> omega)); clear hA hB A B))
      | (refine RQ.nl ?_; refine hk _ _ ?_; clear hk k)
      | refine WP.sr fun k hk => ?_ | refine WP.r fun k hk => ?_
      | refine WP.sd _ rfl fun k hk => ?_ | refine WP.d _ rfl fun k hk => ?_
      | (refine WP.cc fun A B hA hB => ?_; simp [hg, relO, anilCheck, onB_t, onB_f]; first | (refine hA ?_; clear hA hB A B) | (refine hB ?_; clear hA hB A B) | (refine onB_if (fun h => hA ?_) (fun h => hB ?_) <;> clear hA hB A B))
      | refine WP.q ?_ | refine WP.b ?_)
    simp
  · skip
    repeat' (first
      | refine WP.t ?_ | refine WP.k ?_ | refine WP.e ?_ | refine Qn ?_ | refine Qr ?_ | refine Qe ?_ | refine Bn ?_ | refine Br ?_ | refine Be ?_ | refine Bx (by decide) ?_
      | (refine RS.nl ?_; refine hk _ _ ?_; clear hk k)
      | ((first | refine RS.st fun A B hA hB => ?_ | refine RQ.st fun A B hA hB => ?_); simp [hg, relO, anilCheck, hrd, onW_t, onW_f, onV_s]; first | ((first | refine hA _ _ _ ?_ ?_ | refine hA _ _ _ ?_ (by first | exact .inl rfl | exact .inr (by decide)) ?_); (focus (simp [hg, relO, anilCheck, hrd] <;> omega)); clear hA hB A B) | (refine hB ?_; clear hA hB A B) | (refine onV_if ?_ ?_; (focus (first | omega | (refine ⟨?_, ?_⟩ <;> omega))); simp only [onV_s]; (first | refine hA _ _ _ ?_ ?_ | refine hA _ _ _ ?_ (by first | exact .inl rfl | exact .inr (by decide)) ?_); (focus (simp [hg, relO, anilCheck, hrd] <;> omega)); clear hA hB A B))
      | (refine RQ.nl ?_; refine hk _ _ ?_; clear hk k)
      | refine WP.sr fun k hk => ?_ | refine WP.r fun k hk => ?_
      | refine WP.sd _ rfl fun k hk => ?_ | refine WP.d _ rfl fun k hk => ?_
      | (refine WP.cc fun A B hA hB => ?_; simp [hg, relO, anilCheck, hrd, onB_t, onB_f]; first | (refine hA ?_; clear hA hB A B) | (refine hB ?_; clear hA hB A B) | (refine onB_if (fun h => hA ?_) (fun h => hB ?_) <;> clear hA hB A B))
      | refine WP.q ?_ | refine WP.b ?_)
    simp
theorem ft_Len0 : FT (env K gw) NoW 13 [.np] s (.int .i64 0) s := by
  refine FT.pure (fn := Tryd.f13) F0_ok mixed Tryd.func13 (by kernel_rfl) (by rfl) rfl rfl (by simp) rfl fun μ w => ?_
  repeat' (first
    | refine WP.t ?_ | refine WP.k ?_ | refine WP.e ?_ | refine Qn ?_ | refine Qr ?_ | refine Qe ?_ | refine Bn ?_ | refine Br ?_ | refine Be ?_ | refine Bx (by decide) ?_
    | (refine RS.nl ?_; refine hk _ _ ?_; clear hk k)
    | ((first | refine RS.st fun A B hA hB => ?_ | refine RQ.st fun A B hA hB => ?_); simp [onW_t, onW_t, onW_f, onV_s]; first | ((first | refine hA _ _ _ ?_ ?_ | refine hA _ _ _ ?_ (by first | exact .inl rfl | exact .inr (by decide)) ?_); (focus (simp [onW_t] <;> omega)); clear hA hB A B) | (refine hB ?_; clear hA hB A B) | (refine onV_if ?_ ?_; (focus (first | omega | (refine ⟨?_, ?_⟩ <;> omega))); simp only [onV_s]; (first | refine hA _ _ _ ?_ ?_ | refine hA _ _ _ ?_ (by first | exact .inl rfl | exact .inr (by decide)) ?_); (focus (simp [onW_t] <;> omega)); clear hA hB A B))
    | (refine RQ.nl ?_; refine hk _ _ ?_; clear hk k)
    | refine WP.sr fun k hk => ?_ | refine WP.r fun k hk => ?_
    | refine WP.sd _ rfl fun k hk => ?_ | refine WP.d _ rfl fun k hk => ?_
    | (refine WP.cc fun A B hA hB => ?_; simp [onW_t, onB_t, onB_f]; first | (refine hA ?_; clear hA hB A B) | (refine hB ?_; clear hA hB A B) | (refine onB_if (fun h => hA ?_) (fun h => hB ?_) <;> clear hA hB A B))
    | refine WP.q ?_ | refine WP.b ?_)
  simp
end
end Go.Am
