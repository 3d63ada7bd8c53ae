/- Part of the proof: abstract values over the given model of Go (T1, T2, T3, T4, T5, T6, T7, T8, T9). Conditions: none of its own; see the statement in the seat's Rows text. -/
import Derived.Test.YtnpidlhooilddaaDoorAmFour
import Derived.Test.YtnpidlhooilddaaDoorRows
import Derived.Shelf.Strconv.Itoa4
import Derived.Lib.AppendIntMem
set_option linter.unusedSimpArgs false
set_option linter.unusedVariables false
set_option linter.unusedSectionVars false
namespace Go.Am
open Go.Proofs

noncomputable def env (K : Nat) (gw : World) : Env := { P := Tryd.prog, K := K, gw := gw, ti := tiOf Tryd.prog, tok := fun _ _ h => h, glob := fun _ => [], gok := fun g j x h => by simp at h }

theorem ti22 : tiOf Tryd.prog 22 = some ⟨1, 24, false, [.slice none 0 0], .slice 34, false, false⟩ := by kernel_rfl
theorem ti34 : tiOf Tryd.prog 34 = some ⟨3, 32, true, [.bool false, .string ⟨#[]⟩, .int .i64 0], .struct
      #[{ name := "IsSym", type := 4, offset := 0, embedded := false, tag := "", pkgPath := "", byteOffset := 0 },
        { name := "Sym", type := 9, offset := 1, embedded := false, tag := "", pkgPath := "", byteOffset := 8 },
        { name := "N", type := 2, offset := 2, embedded := false, tag := "", pkgPath := "", byteOffset := 24 }], false, false⟩ := by kernel_rfl

theorem ti3 : tiOf Tryd.prog 3 = some ⟨1, 8, false, [.int .i64 0], .int .i64, false, false⟩ := by kernel_rfl


theorem ti9 : tiOf Tryd.prog 9 = some ⟨1, 16, false, [.string ⟨#[]⟩], .string, false, false⟩ := by kernel_rfl
theorem ti4 : tiOf Tryd.prog 4 = some ⟨1, 1, false, [.bool false], .bool, false, false⟩ := by kernel_rfl
theorem ti2 : tiOf Tryd.prog 2 = some ⟨1, 8, false, [.int .i64 0], .int .i64, false, false⟩ := by kernel_rfl

section
variable {K : Nat} {gw : World} {s : St}
theorem mixed0 : Tryd.prog.follows .mixedOrders = true := by kernel_rfl
theorem env_P : (env K gw).P = Tryd.prog := rfl
theorem mixed : (env K gw).P.follows .mixedOrders = true := @mixed_of (env K gw) Tryd.prog env_P mixed0
theorem env_ti' : (env K gw).ti = tiOf Tryd.prog := by simp only [env]
theorem env_ti (t : TypeId) : (env K gw).ti t = tiOf Tryd.prog t := congrFun env_ti' t

def cmpI (m n : Int) : Int := if m < n then -1 else if n < m then 1 else 0
def cmpS (a b : List UInt8) : Int := if Op.bytesLess a b then -1 else if a == b then 0 else 1

def pNaNi : List AV → Option AV
  | [.int .i64 _] => some (.bool false)
  | _ => none
def pNaNs : List AV → Option AV
  | [.str _] => some (.bool false)
  | _ => none
def pCmpI : List AV → Option AV
  | [.int .i64 m, .int .i64 n] => some (.int .i64 (cmpI m n))
  | _ => none
def pCmpS : List AV → Option AV
  | [.str m, .str n] => some (.int .i64 (cmpS m n))
  | _ => none

attribute [local simp] RS_cons' RS_nil RQ_nil RQ_cons' awanted xop zOf zrow aop ev T0 Slots.put Slots.set Slots.get awr WOk AV.may ofConst abinop aint isConst St.get_push St.get_put St.live AV.fit AV.cells AV.one fieldOf afieldAddr aload ofCells astore env_ti FinP ares aresL ares1

theorem ft45 (n : Int) : FT (env K gw) NoW 45 [.int .i64 n] s (.bool false) s := by
  refine FT.pure (fn := Tryd.f45) F0_ok mixed Tryd.func45 rfl (by rfl) rfl rfl (by simp) rfl fun μ w => ?_
  repeat' (first
    | refine WP.t ?_ | refine WP.k ?_ | refine WP.e ?_ | refine Qn ?_ | refine Qr ?_ | refine Qe ?_ | refine Bn ?_ | refine Br ?_ | refine Be ?_ | refine Bx (by decide) ?_
    | (refine WP.sr fun k hk => ?_; simp [awanted]; refine hk _ _ ?_; clear hk) | (refine WP.r fun k hk => ?_; simp [awanted]; refine hk _ _ ?_; clear hk)
    | (refine WP.sd _ rfl fun k hk => ?_; simp [awanted]; refine hk _ _ ?_; clear hk) | (refine WP.d _ rfl fun k hk => ?_; simp [awanted]; refine hk _ _ ?_; clear hk)
    | (refine WP.cc fun A B hA hB => ?_; simp [awanted, onB_t, onB_f]; first | (refine hA ?_; clear hA hB) | (refine hB ?_; clear hA hB) | (refine onB_if (fun h => hA ?_) (fun h => hB ?_) <;> clear hA hB))
    | refine WP.q ?_ | refine WP.b ?_)
  simp
theorem ft56 (n : List UInt8) : FT (env K gw) NoW 56 [.str n] s (.bool false) s := by
  refine FT.pure (fn := Tryd.f56) F0_ok mixed Tryd.func56 rfl (by rfl) rfl rfl (by simp) rfl fun μ w => ?_
  repeat' (first
    | refine WP.t ?_ | refine WP.k ?_ | refine WP.e ?_ | refine Qn ?_ | refine Qr ?_ | refine Qe ?_ | refine Bn ?_ | refine Br ?_ | refine Be ?_ | refine Bx (by decide) ?_
    | (refine WP.sr fun k hk => ?_; simp [astrop]; refine hk _ _ ?_; clear hk) | (refine WP.r fun k hk => ?_; simp [astrop]; refine hk _ _ ?_; clear hk)
    | (refine WP.sd _ rfl fun k hk => ?_; simp [astrop]; refine hk _ _ ?_; clear hk) | (refine WP.d _ rfl fun k hk => ?_; simp [astrop]; refine hk _ _ ?_; clear hk)
    | (refine WP.cc fun A B hA hB => ?_; simp [astrop, onB_t, onB_f]; first | (refine hA ?_; clear hA hB) | (refine hB ?_; clear hA hB) | (refine onB_if (fun h => hA ?_) (fun h => hB ?_) <;> clear hA hB))
    | refine WP.q ?_ | refine WP.b ?_)
  simp
theorem ft57 (n : Int) : FT (env K gw) NoW 57 [.int .i64 n] s (.bool false) s := by
  refine FT.pure (fn := Tryd.f57) F0_ok mixed Tryd.func57 rfl (by rfl) rfl rfl (by simp) rfl fun μ w => ?_
  repeat' (first
    | refine WP.t ?_ | refine WP.k ?_ | refine WP.e ?_ | refine Qn ?_ | refine Qr ?_ | refine Qe ?_ | refine Bn ?_ | refine Br ?_ | refine Be ?_ | refine Bx (by decide) ?_
    | (refine WP.sr fun k hk => ?_; simp [awanted]; refine hk _ _ ?_; clear hk) | (refine WP.r fun k hk => ?_; simp [awanted]; refine hk _ _ ?_; clear hk)
    | (refine WP.sd _ rfl fun k hk => ?_; simp [awanted]; refine hk _ _ ?_; clear hk) | (refine WP.d _ rfl fun k hk => ?_; simp [awanted]; refine hk _ _ ?_; clear hk)
    | (refine WP.cc fun A B hA hB => ?_; simp [awanted, onB_t, onB_f]; first | (refine hA ?_; clear hA hB) | (refine hB ?_; clear hA hB) | (refine onB_if (fun h => hA ?_) (fun h => hB ?_) <;> clear hA hB))
    | refine WP.q ?_ | refine WP.b ?_)
  simp
def F1 : Fns := ((F0.addP 45 pNaNi).addP 56 pNaNs).addP 57 pNaNi
theorem F1_ok : FOk (env K gw) F1 := by
  refine ((F0_ok.addP ?_).addP ?_).addP ?_
  · intro xs s r h; unfold pNaNi at h; split at h <;> cases h; exact ft45 _
  · intro xs s r h; unfold pNaNs at h; split at h <;> cases h; exact ft56 _
  · intro xs s r h; unfold pNaNi at h; split at h <;> cases h; exact ft57 _
theorem ft28 (m n : Int) : FT (env K gw) NoW 28 [.int .i64 m, .int .i64 n] s (.int .i64 (cmpI m n)) s := by
  refine FT.pure (fn := Tryd.f28) F1_ok mixed Tryd.func28 rfl (by rfl) rfl rfl (by simp) rfl fun μ w => ?_
  repeat' (first
    | refine WP.t ?_ | refine WP.k ?_ | refine WP.e ?_ | refine Qn ?_ | refine Qr ?_ | refine Qe ?_ | refine Bn ?_ | refine Br ?_ | refine Be ?_ | refine Bx (by decide) ?_
    | (refine WP.sr fun k hk => ?_; simp [F1, Fns.addP, pNaNi]; refine hk _ _ ?_; clear hk) | (refine WP.r fun k hk => ?_; simp [F1, Fns.addP, pNaNi]; refine hk _ _ ?_; clear hk)
    | (refine WP.sd _ rfl fun k hk => ?_; simp [F1, Fns.addP, pNaNi]; refine hk _ _ ?_; clear hk) | (refine WP.d _ rfl fun k hk => ?_; simp [F1, Fns.addP, pNaNi]; refine hk _ _ ?_; clear hk)
    | (refine WP.cc fun A B hA hB => ?_; simp [F1, Fns.addP, pNaNi, onB_t, onB_f]; first | (refine hA ?_; clear hA hB) | (refine hB ?_; clear hA hB) | (refine onB_if (fun h => hA ?_) (fun h => hB ?_) <;> clear hA hB))
    | refine WP.q ?_ | refine WP.b ?_)
  all_goals (simp at *; simp [cmpI, cmpS, *]; try omega)
theorem ft44 (m n : Int) : FT (env K gw) NoW 44 [.int .i64 m, .int .i64 n] s (.int .i64 (cmpI m n)) s := by
  refine FT.pure (fn := Tryd.f44) F1_ok mixed Tryd.func44 rfl (by rfl) rfl rfl (by simp) rfl fun μ w => ?_
  repeat' (first
    | refine WP.t ?_ | refine WP.k ?_ | refine WP.e ?_ | refine Qn ?_ | refine Qr ?_ | refine Qe ?_ | refine Bn ?_ | refine Br ?_ | refine Be ?_ | refine Bx (by decide) ?_
    | (refine WP.sr fun k hk => ?_; simp [F1, Fns.addP, pNaNi]; refine hk _ _ ?_; clear hk) | (refine WP.r fun k hk => ?_; simp [F1, Fns.addP, pNaNi]; refine hk _ _ ?_; clear hk)
    | (refine WP.sd _ rfl fun k hk => ?_; simp [F1, Fns.addP, pNaNi]; refine hk _ _ ?_; clear hk) | (refine WP.d _ rfl fun k hk => ?_; simp [F1, Fns.addP, pNaNi]; refine hk _ _ ?_; clear hk)
    | (refine WP.cc fun A B hA hB => ?_; simp [F1, Fns.addP, pNaNi, onB_t, onB_f]; first | (refine hA ?_; clear hA hB) | (refine hB ?_; clear hA hB) | (refine onB_if (fun h => hA ?_) (fun h => hB ?_) <;> clear hA hB))
    | refine WP.q ?_ | refine WP.b ?_)
  all_goals (simp at *; simp [cmpI, cmpS, *]; try omega)
theorem ft43 (m n : List UInt8) : FT (env K gw) NoW 43 [.str m, .str n] s (.int .i64 (cmpS m n)) s := by
  refine FT.pure (fn := Tryd.f43) F1_ok mixed Tryd.func43 rfl (by rfl) rfl rfl (by simp) rfl fun μ w => ?_
  repeat' (first
    | refine WP.t ?_ | refine WP.k ?_ | refine WP.e ?_ | refine Qn ?_ | refine Qr ?_ | refine Qe ?_ | refine Bn ?_ | refine Br ?_ | refine Be ?_ | refine Bx (by decide) ?_
    | (refine WP.sr fun k hk => ?_; simp [F1, Fns.addP, pNaNs, astrop]; refine hk _ _ ?_; clear hk) | (refine WP.r fun k hk => ?_; simp [F1, Fns.addP, pNaNs, astrop]; refine hk _ _ ?_; clear hk)
    | (refine WP.sd _ rfl fun k hk => ?_; simp [F1, Fns.addP, pNaNs, astrop]; refine hk _ _ ?_; clear hk) | (refine WP.d _ rfl fun k hk => ?_; simp [F1, Fns.addP, pNaNs, astrop]; refine hk _ _ ?_; clear hk)
    | (refine WP.cc fun A B hA hB => ?_; simp [F1, Fns.addP, pNaNs, astrop, onB_t, onB_f]; first | (refine hA ?_; clear hA hB) | (refine hB ?_; clear hA hB) | (refine onB_if (fun h => hA ?_) (fun h => hB ?_) <;> clear hA hB))
    | refine WP.q ?_ | refine WP.b ?_)
  all_goals (simp at *; simp_all [cmpS])
def F2 : Fns := ((F1.addP 28 pCmpI).addP 44 pCmpI).addP 43 pCmpS
theorem F2_ok : FOk (env K gw) F2 := by
  refine ((F1_ok.addP ?_).addP ?_).addP ?_
  · intro xs s r h; unfold pCmpI at h; split at h <;> cases h; exact ft28 _ _
  · intro xs s r h; unfold pCmpI at h; split at h <;> cases h; exact ft44 _ _
  · intro xs s r h; unfold pCmpS at h; split at h <;> cases h; exact ft43 _ _

/-- A value of the rules. -/
structure V where
  b : Bool
  s : List UInt8
  n : Int
def V.cs (v : V) : List AV := [.bool v.b, .str v.s, .int .i64 v.n]
def cmpV (x y : V) : Int := if x.b && y.b then cmpS x.s y.s else if x.b then 1 else if y.b then -1 else cmpI x.n y.n
def pCmpV : List AV → Option AV
  | [.agg [.bool b, .str s, .int .i64 n], .agg [.bool b', .str s', .int .i64 n']] => some (.int .i64 (cmpV ⟨b, s, n⟩ ⟨b', s', n'⟩))
  | _ => none
theorem ft27 (x y : V) : FT (env K gw) NoW 27 [.agg x.cs, .agg y.cs] s (.int .i64 (cmpV x y)) s := by
  obtain ⟨b, u, n⟩ := x
  obtain ⟨b', u', n'⟩ := y
  refine FT.pure (fn := Tryd.f27) F2_ok mixed Tryd.func27 rfl (by rfl) rfl rfl (by simp) rfl fun μ w => ?_
  cases b <;> cases b'
  all_goals
    repeat' (first
      | refine WP.t ?_ | refine WP.k ?_ | refine WP.e ?_ | refine Qn ?_ | refine Qr ?_ | refine Qe ?_ | refine Bn ?_ | refine Br ?_ | refine Be ?_ | refine Bx (by decide) ?_
      | (refine WP.sr fun k hk => ?_; simp [F2, Fns.addP, pCmpI, pCmpS, V.cs, ti34, ti9, ti4, ti2]; refine hk _ _ ?_; clear hk) | (refine WP.r fun k hk => ?_; simp [F2, Fns.addP, pCmpI, pCmpS, V.cs, ti34, ti9, ti4, ti2]; refine hk _ _ ?_; clear hk)
      | (refine WP.sd _ rfl fun k hk => ?_; simp [F2, Fns.addP, pCmpI, pCmpS, V.cs, ti34, ti9, ti4, ti2]; refine hk _ _ ?_; clear hk) | (refine WP.d _ rfl fun k hk => ?_; simp [F2, Fns.addP, pCmpI, pCmpS, V.cs, ti34, ti9, ti4, ti2]; refine hk _ _ ?_; clear hk)
      | (refine WP.cc fun A B hA hB => ?_; simp [F2, Fns.addP, pCmpI, pCmpS, V.cs, ti34, ti9, ti4, ti2, onB_t, onB_f]; first | (refine hA ?_; clear hA hB) | (refine hB ?_; clear hA hB) | (refine onB_if (fun h => hA ?_) (fun h => hB ?_) <;> clear hA hB))
      | refine WP.q ?_ | refine WP.b ?_)
  
  all_goals simp [cmpV]
end
end Go.Am
namespace Go.Am
open Go.Proofs
section
variable {K : Nat} {gw : World} {s : St}
attribute [local simp] RS_cons' RS_nil RQ_nil RQ_cons' awanted xop zOf zrow aop ev T0 Slots.put Slots.set Slots.get awr WOk AV.may ofConst abinop aint isConst St.get_push St.get_put St.live AV.fit AV.cells AV.one fieldOf afieldAddr aload ofCells astore splice May eqres env_ti FinP ares aresL ares1 Fns.addP Fns.add
def F3 : Fns := F2.addP 27 pCmpV
theorem F3_ok : FOk (env K gw) F3 := by
  refine F2_ok.addP ?_
  intro xs s r h; unfold pCmpV at h; split at h <;> cases h; exact ft27 ⟨_, _, _⟩ ⟨_, _, _⟩

def decV : List AV → Option V
  | [.bool b, .str s, .int .i64 n] => some ⟨b, s, n⟩
  | _ => none
def decL : List (List AV) → Option (List V)
  | [] => some []
  | c :: l => match decV c, decL l with
    | some v, some vs => some (v :: vs)
    | _, _ => none
@[simp] theorem decV_cs (v : V) : decV v.cs = some v := rfl
@[simp] theorem decL_map (l : List V) : decL (l.map V.cs) = some l := by
  induction l with
  | nil => rfl
  | cons v l ih => simp [decL, ih]
theorem decV_eq {c : List AV} {v : V} (h : decV c = some v) : c = v.cs := by
  unfold decV at h
  split at h <;> cases h
  rfl
theorem decL_eq {c : List (List AV)} {v : List V} (h : decL c = some v) : c = v.map V.cs := by
  induction c generalizing v with
  | nil => cases h; rfl
  | cons x c ih =>
    simp only [decL] at h
    split at h
    · rename_i a b ha hb
      cases h
      simp [decV_eq ha, ih hb]
    · cases h

abbrev LIM : Nat := 4611686018427387904
def cmpT : List V → List V → Int
  | [], [] => 0
  | [], _ :: _ => -1
  | _ :: _, [] => 1
  | a :: x, b :: y => if cmpV a b = 0 then cmpT x y else cmpV a b
def pCmpT : List AV → Option AV
  | [.sl a, .sl b] => match decL a, decL b with
    | some x, some y => if x.length < LIM ∧ y.length < LIM then some (.int .i64 (cmpT x y)) else none
    | _, _ => none
  | _ => none

theorem cmpT_drop {x y : List V} {i : Nat} (hx : i < x.length) (hy : i < y.length) :
    cmpT (x.drop i) (y.drop i) = if cmpV x[i] y[i] = 0 then cmpT (x.drop (i + 1)) (y.drop (i + 1)) else cmpV x[i] y[i] := by
  rw [List.drop_eq_getElem_cons hx, List.drop_eq_getElem_cons hy]; rfl
theorem cmpT_end {x y : List V} {i : Nat} (h : i = min x.length y.length) : cmpT (x.drop i) (y.drop i) = cmpI x.length y.length := by
  unfold cmpI
  by_cases h1 : x.length < y.length
  · obtain rfl : i = x.length := by omega
    rw [List.drop_length, if_pos (by omega), List.drop_eq_getElem_cons h1]; rfl
  · by_cases h2 : y.length < x.length
    · obtain rfl : i = y.length := by omega
      rw [List.drop_length, if_neg (by omega), if_pos (by omega), List.drop_eq_getElem_cons h2]; rfl
    · obtain rfl : i = x.length := by omega
      rw [if_neg (by omega), if_neg (by omega)]
      have : x.length = y.length := by omega
      rw [List.drop_length, this, List.drop_length]; rfl

theorem ft11 (x y : List V) (hx : x.length < LIM) (hy : y.length < LIM) : FT (env K gw) NoW 11 [.sl (x.map V.cs), .sl (y.map V.cs)] s (.int .i64 (cmpT x y)) s := by
  refine FT.pure (fn := Tryd.f11) F3_ok mixed Tryd.func11 rfl (by rfl) rfl rfl (by simp) rfl fun μ w => ?_
  repeat' (first
    | refine WP.t ?_ | refine WP.k ?_ | refine WP.e ?_ | refine Qn ?_ | refine Qr ?_ | refine Qe ?_ | refine Bn ?_ | refine Br ?_ | refine Be ?_ | refine Bx (by decide) ?_
    | (refine WP.sr fun k hk => ?_; simp [F3, abuiltin, alenOk, alen, ti22, aminmax]; refine hk _ _ ?_; clear hk k) | (refine WP.r fun k hk => ?_; simp [F3, abuiltin, alenOk, alen, ti22, aminmax]; refine hk _ _ ?_; clear hk k)
    | (refine WP.sd _ rfl fun k hk => ?_; simp [F3, abuiltin, alenOk, alen, ti22, aminmax]; refine hk _ _ ?_; clear hk k) | (refine WP.d _ rfl fun k hk => ?_; simp [F3, abuiltin, alenOk, alen, ti22, aminmax]; refine hk _ _ ?_; clear hk k)
    | (refine WP.cc fun A B hA hB => ?_; simp [F3, abuiltin, alenOk, alen, ti22, aminmax, onB_t, onB_f]; first | (refine hA ?_; clear hA hB) | (refine hB ?_; clear hA hB) | (refine onB_if (fun h => hA ?_) (fun h => hB ?_) <;> clear hA hB))
    | refine WP.q ?_ | refine WP.b ?_)
  refine WP_loop (fun n T s' => ∃ i : Nat, n + i = min x.length y.length ∧ s' = s ∧ T.get 0 = .sl (x.map V.cs) ∧ T.get 1 = .sl (y.map V.cs) ∧ T.get 11 = .int .i64 (min x.length y.length : Nat) ∧ T.get 12 = .int .i64 i ∧ cmpT x y = cmpT (x.drop i) (y.drop i)) (min x.length y.length) ⟨0, by simp, rfl, by simp, by simp, by simp; omega, by simp, by simp⟩ ?_
  rintro n T s' ⟨i, hn, rfl, h0, h1, h11, h12, hc⟩
  by_cases hi : i < min x.length y.length
  · have hx' : i < x.length := by omega
    have hy' : i < y.length := by omega
    have hw : IntKind.i64.wrap ((i : Int) + 1) = (i : Int) + 1 := wrap64 (by omega) (by simp only [LIM] at hx; omega)
    have ha : x[i]? = some x[i] := List.getElem?_eq_getElem hx'
    have hb : y[i]? = some y[i] := List.getElem?_eq_getElem hy'
    have hlt : ((i : Int) < ((min x.length y.length : Nat) : Int)) := by omega
    repeat' (first
      | refine WP.t ?_ | refine WP.k ?_ | refine WP.e ?_ | refine Qn ?_ | refine Qr ?_ | refine Qe ?_ | refine Bn ?_ | refine Br ?_ | refine Be ?_ | refine Bx (by decide) ?_
      | (refine WP.sr fun k hk => ?_; simp [F3, pCmpV, h0, h1, h11, h12, hlt, hx', hy', ha, hb, hw, aindex, elemOfT, ti22, ti34, V.cs]; refine hk _ _ ?_; clear hk k) | (refine WP.r fun k hk => ?_; simp [F3, pCmpV, h0, h1, h11, h12, hlt, hx', hy', ha, hb, hw, aindex, elemOfT, ti22, ti34, V.cs]; refine hk _ _ ?_; clear hk k)
      | (refine WP.sd _ rfl fun k hk => ?_; simp [F3, pCmpV, h0, h1, h11, h12, hlt, hx', hy', ha, hb, hw, aindex, elemOfT, ti22, ti34, V.cs]; refine hk _ _ ?_; clear hk k) | (refine WP.d _ rfl fun k hk => ?_; simp [F3, pCmpV, h0, h1, h11, h12, hlt, hx', hy', ha, hb, hw, aindex, elemOfT, ti22, ti34, V.cs]; refine hk _ _ ?_; clear hk k)
      | (refine WP.cc fun A B hA hB => ?_; simp [F3, pCmpV, h0, h1, h11, h12, hlt, hx', hy', ha, hb, hw, aindex, elemOfT, ti22, ti34, V.cs, onB_t, onB_f]; first | (refine hA ?_; clear hA hB) | (refine hB ?_; clear hA hB) | (refine onB_if (fun h => hA ?_) (fun h => hB ?_) <;> clear hA hB))
      | refine WP.q ?_ | refine WP.b ?_)
    · simp at h
      simp
      rw [hc, cmpT_drop hx' hy', if_neg h]
    · simp at h
      refine ⟨n - 1, by omega, i + 1, by omega, rfl, by simp [h0], by simp [h1], by simp [h11], by simp, ?_⟩
      rw [hc, cmpT_drop hx' hy', if_pos h]
  · have hlt : ¬ ((i : Int) < ((min x.length y.length : Nat) : Int)) := by omega
    have he : i = min x.length y.length := by omega
    repeat' (first
      | refine WP.t ?_ | refine WP.k ?_ | refine WP.e ?_ | refine Qn ?_ | refine Qr ?_ | refine Qe ?_ | refine Bn ?_ | refine Br ?_ | refine Be ?_ | refine Bx (by decide) ?_
      | (refine WP.sr fun k hk => ?_; simp [F3, F2, pCmpI, h0, h1, h11, h12, hlt, abuiltin, alenOk, alen, ti22]; refine hk _ _ ?_; clear hk k) | (refine WP.r fun k hk => ?_; simp [F3, F2, pCmpI, h0, h1, h11, h12, hlt, abuiltin, alenOk, alen, ti22]; refine hk _ _ ?_; clear hk k)
      | (refine WP.sd _ rfl fun k hk => ?_; simp [F3, F2, pCmpI, h0, h1, h11, h12, hlt, abuiltin, alenOk, alen, ti22]; refine hk _ _ ?_; clear hk k) | (refine WP.d _ rfl fun k hk => ?_; simp [F3, F2, pCmpI, h0, h1, h11, h12, hlt, abuiltin, alenOk, alen, ti22]; refine hk _ _ ?_; clear hk k)
      | (refine WP.cc fun A B hA hB => ?_; simp [F3, F2, pCmpI, h0, h1, h11, h12, hlt, abuiltin, alenOk, alen, ti22, onB_t, onB_f]; first | (refine hA ?_; clear hA hB) | (refine hB ?_; clear hA hB) | (refine onB_if (fun h => hA ?_) (fun h => hB ?_) <;> clear hA hB))
      | refine WP.q ?_ | refine WP.b ?_)
    rw [cmpT_end he] at hc
    simp [hc]
def F4 : Fns := F3.addP 11 pCmpT
theorem F4_ok : FOk (env K gw) F4 := by
  refine F3_ok.addP ?_
  intro xs s r h
  unfold pCmpT at h
  split at h
  · split at h
    · rename_i hx hy
      split at h
      · rename_i hl
        cases h
        rw [decL_eq hx, decL_eq hy]
        exact ft11 _ _ hl.1 hl.2
      · cases h
    · cases h
  · cases h
end
end Go.Am
namespace Go.Am
open Go.Proofs
section
variable {K : Nat} {gw : World} {s : St}
attribute [local simp] RS_cons' RS_nil RQ_nil RQ_cons' awanted xop zOf zrow aop ev T0 Slots.put Slots.set Slots.get awr WOk AV.may ofConst abinop aint isConst St.get_push St.get_put St.live AV.fit AV.cells AV.one fieldOf afieldAddr aload ofCells astore splice May eqres env_ti FinP ares aresL ares1 Fns.addP Fns.add
theorem ti51 : tiOf Tryd.prog 51 = some ⟨1, 8, false, [.pointer none], .pointer 54, false, false⟩ := by kernel_rfl
theorem ti89 : tiOf Tryd.prog 89 = some ⟨1, 8, false, [.pointer none], .unsafePointer, false, false⟩ := by kernel_rfl
theorem ti73 : tiOf Tryd.prog 73 = some ⟨1, 8, false, [.pointer none], .pointer 5, false, false⟩ := by kernel_rfl
theorem ti5 : tiOf Tryd.prog 5 = some ⟨1, 1, false, [.int .u8 0], .int .u8, false, false⟩ := by kernel_rfl
theorem ti52 : tiOf Tryd.prog 52 = some ⟨1, 24, false, [.slice none 0 0], .slice 5, false, false⟩ := by kernel_rfl
theorem ti54 : tiOf Tryd.prog 54 = some ⟨2, 32, true, [.pointer none, .slice none 0 0], .struct
  #[{ name := "addr", type := 51, offset := 0, embedded := false, tag := "", pkgPath := "strings", byteOffset := 0 },
    { name := "buf", type := 52, offset := 1, embedded := false, tag := "", pkgPath := "strings", byteOffset := 8 }], false, false⟩ := by kernel_rfl

theorem ext62 (v : Value) (w : World) : (callFunc 62 #[v]).run Tryd.prog w = .ok (.value v) w := by kernel_rfl
def pNoEsc : List AV → Option AV
  | [x] => some x
  | _ => none
theorem fx62 (x : AV) : FX (env K gw) 62 [x] s x := by
  intro μ w vs hR hv
  have h1 : vs.size = 1 := by rw [← hv.1]; rfl
  obtain ⟨v, rfl⟩ : ∃ v, vs = #[v] := ⟨vs[0], Array.ext (by simpa using h1) (fun i h1 h2 => by simp at h2; subst h2; rfl)⟩
  exact ⟨v, ext62 v w, hv.2 0 x v rfl rfl⟩
def F5 : Fns := F4.addP 62 pNoEsc
theorem F5_ok : FOk (env K gw) F5 := by
  refine F4_ok.addX ?_
  intro xs s r h; unfold pNoEsc at h; split at h <;> cases h; exact fx62 _

theorem ft47a {id : Nat} {b : AV} (hid : id < s.nx) (hs : s.get id = some (.var 54 [.np, b])) (hb : Below s.nx b) :
    FT (env K gw) (fun i => i ∈ [id]) 47 [.ptr id 0] s (.tup []) (s.put id (.var 54 [.ptr id 0, b])) := by
  refine FT.own (fn := Tryd.f47) F5_ok mixed Tryd.func47 rfl (by rfl) rfl rfl (by simp) rfl fun μ w => ?_
  repeat' (first
    | refine WP.t ?_ | refine WP.k ?_ | refine WP.e ?_ | refine Qn ?_ | refine Qr ?_ | refine Qe ?_ | refine Bn ?_ | refine Br ?_ | refine Be ?_ | refine Bx (by decide) ?_
    | (refine WP.sr fun k hk => ?_; simp [F5, pNoEsc, hs, ti51, ti89, ti54, ti52, anilCheck, aeq, aconv, aconvert, acvp]; refine hk _ _ ?_; clear hk k) | (refine WP.r fun k hk => ?_; simp [F5, pNoEsc, hs, ti51, ti89, ti54, ti52, anilCheck, aeq, aconv, aconvert, acvp]; refine hk _ _ ?_; clear hk k)
    | (refine WP.sd _ rfl fun k hk => ?_; simp [F5, pNoEsc, hs, ti51, ti89, ti54, ti52, anilCheck, aeq, aconv, aconvert, acvp]; refine hk _ _ ?_; clear hk k) | (refine WP.d _ rfl fun k hk => ?_; simp [F5, pNoEsc, hs, ti51, ti89, ti54, ti52, anilCheck, aeq, aconv, aconvert, acvp]; refine hk _ _ ?_; clear hk k)
    | (refine WP.cc fun A B hA hB => ?_; simp [F5, pNoEsc, hs, ti51, ti89, ti54, ti52, anilCheck, aeq, aconv, aconvert, acvp, onB_t, onB_f]; first | (refine hA ?_; clear hA hB) | (refine hB ?_; clear hA hB) | (refine onB_if (fun h => hA ?_) (fun h => hB ?_) <;> clear hA hB))
    | refine WP.q ?_ | refine WP.b ?_)
  simp [FinW]
  intro h i hi hw o ho
  by_cases e : i = id
  · simp [e] at ho; subst ho; simp [hid, hb]
  · omega
theorem ft47b {id : Nat} {b : AV} (hid : id < s.nx) (hs : s.get id = some (.var 54 [.ptr id 0, b])) : FT (env K gw) NoW 47 [.ptr id 0] s (.tup []) s := by
  refine FT.pure (fn := Tryd.f47) F5_ok mixed Tryd.func47 rfl (by rfl) rfl rfl (by simp) rfl fun μ w => ?_
  repeat' (first
    | refine WP.t ?_ | refine WP.k ?_ | refine WP.e ?_ | refine Qn ?_ | refine Qr ?_ | refine Qe ?_ | refine Bn ?_ | refine Br ?_ | refine Be ?_ | refine Bx (by decide) ?_
    | (refine WP.sr fun k hk => ?_; simp [F5, pNoEsc, hs, ti51, ti89, ti54, ti52, anilCheck, aeq, aconv, aconvert, acvp]; refine hk _ _ ?_; clear hk k) | (refine WP.r fun k hk => ?_; simp [F5, pNoEsc, hs, ti51, ti89, ti54, ti52, anilCheck, aeq, aconv, aconvert, acvp]; refine hk _ _ ?_; clear hk k)
    | (refine WP.sd _ rfl fun k hk => ?_; simp [F5, pNoEsc, hs, ti51, ti89, ti54, ti52, anilCheck, aeq, aconv, aconvert, acvp]; refine hk _ _ ?_; clear hk k) | (refine WP.d _ rfl fun k hk => ?_; simp [F5, pNoEsc, hs, ti51, ti89, ti54, ti52, anilCheck, aeq, aconv, aconvert, acvp]; refine hk _ _ ?_; clear hk k)
    | (refine WP.cc fun A B hA hB => ?_; simp [F5, pNoEsc, hs, ti51, ti89, ti54, ti52, anilCheck, aeq, aconv, aconvert, acvp, onB_t, onB_f]; first | (refine hA ?_; clear hA hB) | (refine hB ?_; clear hA hB) | (refine onB_if (fun h => hA ?_) (fun h => hB ?_) <;> clear hA hB))
    | refine WP.q ?_ | refine WP.b ?_)
  simp
/-- A text's bytes, as a row. -/
def byteRow (x : List UInt8) : List (List AV) := x.map fun c => [.int .u8 (c.toNat : Int)]
/-- copyCheck, as a table's entry. -/
def belowB (n : Nat) : AV → Bool
  | .nsl => true
  | .ls r _ _ => decide (r < n)
  | _ => false
theorem belowB_eq {n : Nat} {x : AV} (h : belowB n x = true) : Below n x := by
  unfold belowB at h
  split at h
  · simp
  · simpa using h
  · cases h
def gCheck (xs : List AV) (s : St) : Option (AV × St × List Nat) :=
  match xs with
  | [.ptr id 0] => if id < s.nx then (match s.get id with
    | some (.var 54 [.np, b]) => if belowB s.nx b then some (.tup [], s.put id (.var 54 [.ptr id 0, b]), [id]) else none
    | some (.var 54 [.ptr id' 0, b]) => if id' = id then some (.tup [], s, []) else none
    | _ => none) else none
  | _ => none
def F6 : Fns := F5.add 47 gCheck
theorem F6_ok : FOk (env K gw) F6 := by
  refine F5_ok.add ?_
  intro xs s r s' l h
  unfold gCheck at h
  split at h
  · split at h
    · rename_i hid
      split at h
      · rename_i b hs
        split at h
        · rename_i hb
          cases h
          exact ft47a hid hs (belowB_eq hb)
        · cases h
      · rename_i b hs
        split at h
        · rename_i e
          subst e
          cases h
          have : (fun id => id ∈ ([] : List Nat)) = NoW := by funext id; simp
          rw [this]
          exact ft47b hid hs
        · cases h
      · cases h
    · cases h
  · cases h
end
end Go.Am
namespace Go.Am
open Go.Proofs
section
variable {K : Nat} {gw : World} {s : St}
attribute [local simp] RS_cons' RS_nil RQ_nil RQ_cons' awanted xop zOf zrow aop ev T0 Slots.put Slots.set Slots.get awr WOk AV.may ofConst abinop aint isConst St.get_push St.get_put St.live AV.fit AV.cells AV.one fieldOf afieldAddr aload ofCells astore splice May eqres env_ti FinP ares aresL ares1 Fns.addP Fns.add
theorem byteRow_length (x : List UInt8) : (byteRow x).length = x.length := by simp [byteRow]
theorem byteRow_ok (x : List UInt8) : (byteRow x).all (fun y => y.length == 1 && y.all AV.one) = true := by simp [byteRow, AV.one]
theorem byteRow_append (x y : List UInt8) : byteRow (x ++ y) = byteRow x ++ byteRow y := by simp [byteRow]
theorem byteRow_below (n : Nat) (x : List UInt8) : ∀ e ∈ byteRow x, ∀ y ∈ e, Below n y := by simp [byteRow]
theorem byteRow_bytes (x : List UInt8) : (byteRow x).mapM byteOf = some x := by
  induction x with
  | nil => rfl
  | cons c x ih => simp [byteRow] at ih ⊢; rw [ih]; simp [byteOf]

theorem ft30a {id : Nat} {p : AV} {x : List UInt8} (hid : id < s.nx) (hs : s.get id = some (.var 54 [p, .nsl])) (hp : p = .np ∨ p = .ptr id 0) (hb : x.length ≤ 140737488355328) :
    FT (env K gw) (fun i => i ∈ [id]) 30 [.ptr id 0, .str x] s (.tup [.int .i64 x.length, .nif]) ((s.push (.row 1 (true, 5) (byteRow x))).put id (.var 54 [.ptr id 0, .ls s.nx 0 x.length])) := by
  refine FT.own (fn := Tryd.f30) F6_ok mixed Tryd.func30 rfl (by rfl) rfl rfl (by simp) rfl fun μ w => ?_
  have hne : ¬ s.nx = id := by omega
  have hne' : ¬ id = s.nx := by omega
  unfold byteRow at *
  rcases hp with rfl | rfl
  all_goals
    repeat' (first
      | refine WP.t ?_ | refine WP.k ?_ | refine WP.e ?_ | refine Qn ?_ | refine Qr ?_ | refine Qe ?_ | refine Bn ?_ | refine Br ?_ | refine Be ?_ | refine Bx (by decide) ?_
      | (refine WP.sr fun k hk => ?_; simp [F6, gCheck, belowB, hs, hid, ti51, ti54, ti52, ti5, ti9, anilCheck, abuiltin, elemOfT, elemId, ard, aappend, isSS, AV.isStr, hb, hne, hne', alen, alenOk]; refine hk _ _ ?_; clear hk k) | (refine WP.r fun k hk => ?_; simp [F6, gCheck, belowB, hs, hid, ti51, ti54, ti52, ti5, ti9, anilCheck, abuiltin, elemOfT, elemId, ard, aappend, isSS, AV.isStr, hb, hne, hne', alen, alenOk]; refine hk _ _ ?_; clear hk k)
      | (refine WP.sd _ rfl fun k hk => ?_; simp [F6, gCheck, belowB, hs, hid, ti51, ti54, ti52, ti5, ti9, anilCheck, abuiltin, elemOfT, elemId, ard, aappend, isSS, AV.isStr, hb, hne, hne', alen, alenOk]; refine hk _ _ ?_; clear hk k) | (refine WP.d _ rfl fun k hk => ?_; simp [F6, gCheck, belowB, hs, hid, ti51, ti54, ti52, ti5, ti9, anilCheck, abuiltin, elemOfT, elemId, ard, aappend, isSS, AV.isStr, hb, hne, hne', alen, alenOk]; refine hk _ _ ?_; clear hk k)
      | (refine WP.cc fun A B hA hB => ?_; simp [F6, gCheck, belowB, hs, hid, ti51, ti54, ti52, ti5, ti9, anilCheck, abuiltin, elemOfT, elemId, ard, aappend, isSS, AV.isStr, hb, hne, hne', alen, alenOk, onB_t, onB_f]; first | (refine hA ?_; clear hA hB) | (refine hB ?_; clear hA hB) | (refine onB_if (fun h => hA ?_) (fun h => hB ?_) <;> clear hA hB))
      | refine WP.q ?_ | refine WP.b ?_)
  all_goals
    refine ⟨.inr rfl, by simp, by simp; try omega, by simp, by simp, fun _ => ⟨fun j hj => ?_, fun j hj hw o ho => ?_⟩⟩
    · by_cases h1 : j = id
      · simp [h1]
      · simp [h1, St.get_drop] <;> first | done | rfl
    · by_cases h1 : j = id
      · simp [h1] at ho; subst ho; simp; omega
      · by_cases h2 : j = s.nx
        · simp [h2, hne] at ho; subst ho; simp
        · simp [h1, h2, St.get_drop] at ho hw hj
          try omega
theorem ft30b {id rd : Nat} {p : AV} {x y : List UInt8} (hid : id < s.nx) (hrd : rd < s.nx) (hs : s.get id = some (.var 54 [p, .ls rd 0 y.length])) (hr : s.get rd = some (.row 1 (true, 5) (byteRow y))) (hp : p = .np ∨ p = .ptr id 0) (hb : y.length + x.length ≤ 140737488355328) :
    FT (env K gw) (fun i => i ∈ [id, rd]) 30 [.ptr id 0, .str x] s (.tup [.int .i64 x.length, .nif]) (((s.drop rd).push (.row 1 (true, 5) (byteRow (y ++ x)))).put id (.var 54 [.ptr id 0, .ls s.nx 0 (y.length + x.length)])) := by
  have hne0 : ¬ rd = id := by rintro rfl; rw [hs] at hr; cases hr
  have hne00 : ¬ id = rd := fun e => hne0 e.symm
  refine FT.own (fn := Tryd.f30) F6_ok mixed Tryd.func30 rfl (by rfl) rfl rfl (by simp) rfl fun μ w => ?_
  have hne : ¬ s.nx = id := by omega
  have hne' : ¬ id = s.nx := by omega
  have hne1 : ¬ rd = s.nx := by omega
  unfold byteRow at *
  rcases hp with rfl | rfl
  all_goals
    repeat' (first
      | refine WP.t ?_ | refine WP.k ?_ | refine WP.e ?_ | refine Qn ?_ | refine Qr ?_ | refine Qe ?_ | refine Bn ?_ | refine Br ?_ | refine Be ?_ | refine Bx (by decide) ?_
      | (refine WP.sr fun k hk => ?_; simp [F6, gCheck, belowB, hs, hr, hid, hrd, ti51, ti54, ti52, ti5, ti9, anilCheck, abuiltin, elemOfT, elemId, ard, aappend, isSS, AV.isStr, hb, hne, hne', hne0, hne00, hne1, alen, alenOk, St.get_drop]; refine hk _ _ ?_; clear hk k) | (refine WP.r fun k hk => ?_; simp [F6, gCheck, belowB, hs, hr, hid, hrd, ti51, ti54, ti52, ti5, ti9, anilCheck, abuiltin, elemOfT, elemId, ard, aappend, isSS, AV.isStr, hb, hne, hne', hne0, hne00, hne1, alen, alenOk, St.get_drop]; refine hk _ _ ?_; clear hk k)
      | (refine WP.sd _ rfl fun k hk => ?_; simp [F6, gCheck, belowB, hs, hr, hid, hrd, ti51, ti54, ti52, ti5, ti9, anilCheck, abuiltin, elemOfT, elemId, ard, aappend, isSS, AV.isStr, hb, hne, hne', hne0, hne00, hne1, alen, alenOk, St.get_drop]; refine hk _ _ ?_; clear hk k) | (refine WP.d _ rfl fun k hk => ?_; simp [F6, gCheck, belowB, hs, hr, hid, hrd, ti51, ti54, ti52, ti5, ti9, anilCheck, abuiltin, elemOfT, elemId, ard, aappend, isSS, AV.isStr, hb, hne, hne', hne0, hne00, hne1, alen, alenOk, St.get_drop]; refine hk _ _ ?_; clear hk k)
      | (refine WP.cc fun A B hA hB => ?_; simp [F6, gCheck, belowB, hs, hr, hid, hrd, ti51, ti54, ti52, ti5, ti9, anilCheck, abuiltin, elemOfT, elemId, ard, aappend, isSS, AV.isStr, hb, hne, hne', hne0, hne00, hne1, alen, alenOk, St.get_drop, onB_t, onB_f]; first | (refine hA ?_; clear hA hB) | (refine hB ?_; clear hA hB) | (refine onB_if (fun h => hA ?_) (fun h => hB ?_) <;> clear hA hB))
      | refine WP.q ?_ | refine WP.b ?_)
  all_goals
    refine ⟨.inr rfl, by simp, by simp; try omega, by simp, by simp, fun _ => ⟨fun j hj => ?_, fun j hj hw o ho => ?_⟩⟩
    · by_cases h1 : j = id
      · simp [h1]
      · simp [h1, St.get_drop] <;> first | done | rfl
    · by_cases h1 : j = id
      · simp [h1] at ho; subst ho; simp; omega
      · by_cases h2 : j = s.nx
        · simp [h2, hne] at ho; subst ho; simp
          rintro e (⟨c, _, rfl⟩ | ⟨c, _, rfl⟩) y hy <;> (simp at hy; subst hy; simp)
        · simp [h1, h2, St.get_drop] at ho hw hj
          try omega
end
end Go.Am
namespace Go.Am
open Go.Proofs
section
variable {K : Nat} {gw : World} {s : St}
attribute [local simp] RS_cons' RS_nil RQ_nil RQ_cons' awanted xop zOf zrow aop ev T0 Slots.put Slots.set Slots.get awr WOk AV.may ofConst abinop aint isConst St.get_push St.get_put St.live AV.fit AV.cells AV.one fieldOf afieldAddr aload ofCells astore splice May eqres env_ti FinP ares aresL ares1 Fns.addP Fns.add
def unrow : List (List AV) → Option (List UInt8)
  | [] => some []
  | [.int .u8 n] :: l => if 0 ≤ n ∧ n < 256 then (unrow l).map (UInt8.ofNat n.toNat :: ·) else none
  | _ => none
@[simp] theorem unrow_row (x : List UInt8) : unrow (byteRow x) = some x := by
  unfold byteRow
  induction x with
  | nil => rfl
  | cons c x ih =>
    have h : ((c.toNat : Int) < 256) := by have := c.toNat_lt; omega
    simp [unrow, ih, h]
theorem unrow_eq : ∀ {es : List (List AV)} {x : List UInt8}, unrow es = some x → es = byteRow x := by
  intro es
  induction es with
  | nil => intro x h; cases h; rfl
  | cons e es ih =>
    intro x h
    unfold unrow at h
    split at h
    · rename_i heq; cases heq
    · rename_i n l heq
      simp only [List.cons.injEq] at heq
      obtain ⟨rfl, rfl⟩ := heq
      split at h
      · rename_i hn
        obtain ⟨y, hy, rfl⟩ := Option.map_eq_some_iff.1 h
        rw [ih hy]
        simp only [byteRow, List.map_cons, List.cons.injEq, and_true]
        congr 1
        simp
        omega
      · cases h
    · cases h
def okp (id : Nat) : AV → Bool
  | .np => true
  | .ptr i 0 => i == id
  | _ => false
theorem okp_eq {id : Nat} {p : AV} (h : okp id p = true) : p = .np ∨ p = .ptr id 0 := by
  unfold okp at h
  split at h
  · exact .inl rfl
  · simp at h; exact .inr (by rw [h])
  · cases h
def gWrite (xs : List AV) (s : St) : Option (AV × St × List Nat) :=
  match xs with
  | [.ptr id 0, .str x] => if id < s.nx then (match s.get id with
    | some (.var 54 [p, b]) => if okp id p then (match b with
      | .nsl => if x.length ≤ 140737488355328 then some (.tup [.int .i64 x.length, .nif], (s.push (.row 1 (true, 5) (byteRow x))).put id (.var 54 [.ptr id 0, .ls s.nx 0 x.length]), [id]) else none
      | .ls rd 0 n => if rd < s.nx then (match s.get rd with
        | some (.row 1 (true, 5) es) => match unrow es with
          | some y => if n = y.length ∧ y.length + x.length ≤ 140737488355328 then
              some (.tup [.int .i64 x.length, .nif], ((s.drop rd).push (.row 1 (true, 5) (byteRow (y ++ x)))).put id (.var 54 [.ptr id 0, .ls s.nx 0 (y.length + x.length)]), [id, rd]) else none
          | none => none
        | _ => none) else none
      | _ => none) else none
    | _ => none) else none
  | _ => none
theorem gWrite_ok {xs : List AV} {r : AV} {s' : St} {l : List Nat} (h : gWrite xs s = some (r, s', l)) : FT (env K gw) (fun id => id ∈ l) 30 xs s r s' := by
  unfold gWrite at h
  split at h
  · split at h
    · rename_i hid
      split at h
      · rename_i hs
        split at h
        · rename_i hp
          split at h
          · split at h
            · rename_i hx
              cases h
              exact ft30a hid hs (okp_eq hp) hx
            · cases h
          · split at h
            · rename_i hrd
              split at h
              · rename_i hr
                split at h
                · rename_i y hy
                  split at h
                  · rename_i hc
                    cases h
                    obtain ⟨rfl, hc⟩ := hc
                    rw [unrow_eq hy] at hr
                    exact ft30b hid hrd hs hr (okp_eq hp) hc
                  · cases h
                · cases h
              · cases h
            · cases h
          · cases h
        · cases h
      · cases h
    · cases h
  · cases h
def F7 : Fns := F6.add 30 gWrite
theorem F7_ok : FOk (env K gw) F7 := F6_ok.add fun xs s r s' l h => gWrite_ok h

theorem ft32a {id : Nat} {p : AV} (hs : s.get id = some (.var 54 [p, .nsl])) : FT (env K gw) NoW 32 [.ptr id 0] s (.str []) s := by
  refine FT.pure (fn := Tryd.f32) F7_ok mixed Tryd.func32 rfl (by rfl) rfl rfl (by simp) rfl fun μ w => ?_
  repeat' (first
    | refine WP.t ?_ | refine WP.k ?_ | refine WP.e ?_ | refine Qn ?_ | refine Qr ?_ | refine Qe ?_ | refine Bn ?_ | refine Br ?_ | refine Be ?_ | refine Bx (by decide) ?_
    | (refine WP.sr fun k hk => ?_; simp [hs, ti51, ti54, ti52, ti5, ti9, anilCheck, abuiltin, elemOfT, elemId, ard, alen, alenOk, ausd, aus]; refine hk _ _ ?_; clear hk k) | (refine WP.r fun k hk => ?_; simp [hs, ti51, ti54, ti52, ti5, ti9, anilCheck, abuiltin, elemOfT, elemId, ard, alen, alenOk, ausd, aus]; refine hk _ _ ?_; clear hk k)
    | (refine WP.sd _ rfl fun k hk => ?_; simp [hs, ti51, ti54, ti52, ti5, ti9, anilCheck, abuiltin, elemOfT, elemId, ard, alen, alenOk, ausd, aus]; refine hk _ _ ?_; clear hk k) | (refine WP.d _ rfl fun k hk => ?_; simp [hs, ti51, ti54, ti52, ti5, ti9, anilCheck, abuiltin, elemOfT, elemId, ard, alen, alenOk, ausd, aus]; refine hk _ _ ?_; clear hk k)
    | (refine WP.cc fun A B hA hB => ?_; simp [hs, ti51, ti54, ti52, ti5, ti9, anilCheck, abuiltin, elemOfT, elemId, ard, alen, alenOk, ausd, aus, onB_t, onB_f]; first | (refine hA ?_; clear hA hB) | (refine hB ?_; clear hA hB) | (refine onB_if (fun h => hA ?_) (fun h => hB ?_) <;> clear hA hB))
    | refine WP.q ?_ | refine WP.b ?_)
  simp
theorem ft32b {id rd : Nat} {p : AV} {y : List UInt8} (hid : id < s.nx) (hrd : rd < s.nx) (hs : s.get id = some (.var 54 [p, .ls rd 0 y.length])) (hr : s.get rd = some (.row 1 (true, 5) (byteRow y))) (h0 : 0 < y.length) (hb : y.length ≤ 140737488355328) :
    FT (env K gw) (fun i => i ∈ [rd]) 32 [.ptr id 0] s (.str y) (s.put rd (.row 1 (false, 5) (byteRow y))) := by
  refine FT.own (fn := Tryd.f32) F7_ok mixed Tryd.func32 rfl (by rfl) rfl rfl (by simp) rfl fun μ w => ?_
  have hm := byteRow_bytes y
  have h1 : ((y.length : Int) ≤ 9223372036854775807) := by omega
  have hl := byteRow_length y
  have ht : List.take y.length (byteRow y) = byteRow y := by rw [← hl, List.take_length]
  repeat' (first
    | refine WP.t ?_ | refine WP.k ?_ | refine WP.e ?_ | refine Qn ?_ | refine Qr ?_ | refine Qe ?_ | refine Bn ?_ | refine Br ?_ | refine Be ?_ | refine Bx (by decide) ?_
    | (refine WP.sr fun k hk => ?_; simp [hs, hr, h0, h1, hm, hl, ht, ti51, ti54, ti52, ti5, ti9, ti73, anilCheck, abuiltin, elemOfT, elemId, ard, alen, alenOk, ausd, aus, isPtrTo]; refine hk _ _ ?_; clear hk k) | (refine WP.r fun k hk => ?_; simp [hs, hr, h0, h1, hm, hl, ht, ti51, ti54, ti52, ti5, ti9, ti73, anilCheck, abuiltin, elemOfT, elemId, ard, alen, alenOk, ausd, aus, isPtrTo]; refine hk _ _ ?_; clear hk k)
    | (refine WP.sd _ rfl fun k hk => ?_; simp [hs, hr, h0, h1, hm, hl, ht, ti51, ti54, ti52, ti5, ti9, ti73, anilCheck, abuiltin, elemOfT, elemId, ard, alen, alenOk, ausd, aus, isPtrTo]; refine hk _ _ ?_; clear hk k) | (refine WP.d _ rfl fun k hk => ?_; simp [hs, hr, h0, h1, hm, hl, ht, ti51, ti54, ti52, ti5, ti9, ti73, anilCheck, abuiltin, elemOfT, elemId, ard, alen, alenOk, ausd, aus, isPtrTo]; refine hk _ _ ?_; clear hk k)
    | (refine WP.cc fun A B hA hB => ?_; simp [hs, hr, h0, h1, hm, hl, ht, ti51, ti54, ti52, ti5, ti9, ti73, anilCheck, abuiltin, elemOfT, elemId, ard, alen, alenOk, ausd, aus, isPtrTo, onB_t, onB_f]; first | (refine hA ?_; clear hA hB) | (refine hB ?_; clear hA hB) | (refine onB_if (fun h => hA ?_) (fun h => hB ?_) <;> clear hA hB))
    | refine WP.q ?_ | refine WP.b ?_)
  refine WP.d 10 (by decide) fun k hk => ?_
  simp [hs, hr, h0, h1, hm, hl, ht, ti51, ti54, ti52, ti5, ti9, ti73, anilCheck, abuiltin, elemOfT, elemId, ard, alen, alenOk, ausd, aus, isPtrTo]
  refine hk _ _ (Qn ?_)
  refine WP.t ?_
  refine ⟨.inr rfl, by simp, by simp, by simp, by simp, fun _ => ⟨fun j hj => rfl, fun j hj hw o ho => ?_⟩⟩
  by_cases e : j = rd
  · simp [e] at ho; subst ho; simp [byteRow]
  · simp [e] at hw hj; omega
def gString (xs : List AV) (s : St) : Option (AV × St × List Nat) :=
  match xs with
  | [.ptr id 0] => if id < s.nx then (match s.get id with
    | some (.var 54 [_, b]) => (match b with
      | .nsl => some (.str [], s, [])
      | .ls rd 0 n => if rd < s.nx then (match s.get rd with
        | some (.row 1 (true, 5) es) => match unrow es with
          | some y => if n = y.length ∧ 0 < y.length ∧ y.length ≤ 140737488355328 then some (.str y, s.put rd (.row 1 (false, 5) (byteRow y)), [rd]) else none
          | none => none
        | _ => none) else none
      | _ => none)
    | _ => none) else none
  | _ => none
theorem gString_ok {xs : List AV} {r : AV} {s' : St} {l : List Nat} (h : gString xs s = some (r, s', l)) : FT (env K gw) (fun id => id ∈ l) 32 xs s r s' := by
  unfold gString at h
  split at h
  · split at h
    · rename_i hid
      split at h
      · rename_i hs
        split at h
        · cases h
          have : (fun id => id ∈ ([] : List Nat)) = NoW := by funext id; simp
          rw [this]
          exact ft32a hs
        · split at h
          · rename_i hrd
            split at h
            · rename_i hr
              split at h
              · rename_i y hy
                split at h
                · rename_i hc
                  cases h
                  obtain ⟨rfl, hc0, hc⟩ := hc
                  rw [unrow_eq hy] at hr
                  exact ft32b hid hrd hs hr hc0 hc
                · cases h
              · cases h
            · cases h
          · cases h
        · cases h
      · cases h
    · cases h
  · cases h
def F8 : Fns := F7.add 32 gString
theorem F8_ok : FOk (env K gw) F8 := F7_ok.add fun xs s r s' l h => gString_ok h
end
end Go.Am
namespace Go.Proofs
open Go.Shelf
def Tryd.laysItoa_ren : Go.Shelf.Ren := ⟨fun | 171 => 31 | 243 => 48 | 246 => 46 | 283 => 58 | 284 => 59 | 285 => 60 | 286 => 61 | 129 => 70 | 317 => 69 | 318 => 71 | 319 => 72 | 320 => 73 | 337 => 81 | 338 => 82 | n => n, fun | 3 => 3 | 9 => 9 | 2 => 2 | 4 => 4 | 171 => 83 | 0 => 0 | 53 => 84 | 37 => 52 | 5 => 5 | 173 => 87 | 212 => 96 | 51 => 97 | 20 => 20 | 213 => 98 | 46 => 99 | 232 => 114 | 233 => 115 | n => n, fun | 17 => 0 | 18 => 4 | 19 => 5 | n => n⟩
theorem Tryd.laysItoa : Go.Proofs.LaysM.n171 Tryd.prog Tryd.laysItoa_ren := {
  mixed := by kernel_rfl
  f129 := Tryd.func70.trans (congrArg some (by kernel_rfl))
  f171 := Tryd.func31.trans (congrArg some (by kernel_rfl))
  f243 := Tryd.func48.trans (congrArg some (by kernel_rfl))
  f246 := Tryd.func46.trans (congrArg some (by kernel_rfl))
  f283 := Tryd.func58.trans (congrArg some (by kernel_rfl))
  f284 := Tryd.func59.trans (congrArg some (by kernel_rfl))
  f285 := Tryd.func60.trans (congrArg some (by kernel_rfl))
  f286 := Tryd.func61.trans (congrArg some (by kernel_rfl))
  f317 := Tryd.func69.trans (congrArg some (by kernel_rfl))
  f318 := Tryd.func71.trans (congrArg some (by kernel_rfl))
  f319 := Tryd.func72.trans (congrArg some (by kernel_rfl))
  f320 := Tryd.func73.trans (congrArg some (by kernel_rfl))
  f337 := Tryd.func81.trans (congrArg some (by kernel_rfl))
  f338 := Tryd.func82.trans (congrArg some (by kernel_rfl))
  t0 := Tryd.underlying0
  a0 := Tryd.isAgg0
  z0 := Tryd.sizeOf0
  v0 := Tryd.zeroValue0
  t2 := Tryd.underlying2
  a2 := Tryd.isAgg2
  z2 := Tryd.sizeOf2
  v2 := Tryd.zeroValue2
  t3 := Tryd.underlying3
  a3 := Tryd.isAgg3
  z3 := Tryd.sizeOf3
  v3 := Tryd.zeroValue3
  t4 := Tryd.underlying4
  a4 := Tryd.isAgg4
  z4 := Tryd.sizeOf4
  v4 := Tryd.zeroValue4
  t5 := Tryd.underlying5
  a5 := Tryd.isAgg5
  z5 := Tryd.sizeOf5
  v5 := Tryd.zeroValue5
  t9 := Tryd.underlying9
  a9 := Tryd.isAgg9
  z9 := Tryd.sizeOf9
  v9 := Tryd.zeroValue9
  t20 := Tryd.underlying20
  a20 := Tryd.isAgg20
  z20 := Tryd.sizeOf20
  v20 := Tryd.zeroValue20
  t37 := Tryd.underlying52
  a37 := Tryd.isAgg52
  z37 := Tryd.sizeOf52
  v37 := Tryd.zeroValue52
  t46 := Tryd.underlying99
  a46 := Tryd.isAgg99
  z46 := Tryd.sizeOf99
  v46 := Tryd.zeroValue99
  t51 := Tryd.underlying97
  a51 := Tryd.isAgg97
  z51 := Tryd.sizeOf97
  v51 := Tryd.zeroValue97
  t53 := Tryd.underlying84
  a53 := Tryd.isAgg84
  z53 := Tryd.sizeOf84
  v53 := Tryd.zeroValue84
  t171 := Tryd.underlying83
  a171 := Tryd.isAgg83
  z171 := Tryd.sizeOf83
  v171 := Tryd.zeroValue83
  t173 := Tryd.underlying87
  a173 := Tryd.isAgg87
  z173 := Tryd.sizeOf87
  v173 := Tryd.zeroValue87
  t212 := Tryd.underlying96
  a212 := Tryd.isAgg96
  z212 := Tryd.sizeOf96
  v212 := Tryd.zeroValue96
  t213 := Tryd.underlying98
  a213 := Tryd.isAgg98
  z213 := Tryd.sizeOf98
  t232 := Tryd.underlying114
  a232 := Tryd.isAgg114
  z232 := Tryd.sizeOf114
  v232 := Tryd.zeroValue114
  t233 := Tryd.underlying115
  a233 := Tryd.isAgg115
  z233 := Tryd.sizeOf115
  v233 := Tryd.zeroValue115
  g17 := by kernel_rfl
  g18 := by kernel_rfl
  g19 := by kernel_rfl
  i0 := by kernel_rfl
  i2 := by kernel_rfl
  i3 := by kernel_rfl
  i4 := by kernel_rfl
  i5 := by kernel_rfl
  i9 := by kernel_rfl
  i20 := by kernel_rfl
  i37 := by kernel_rfl
  i46 := by kernel_rfl
  i51 := by kernel_rfl
  i53 := by kernel_rfl
  i171 := by kernel_rfl
  i173 := by kernel_rfl
  i212 := by kernel_rfl
  i232 := by kernel_rfl
  i233 := by kernel_rfl
  m17 := by kernel_rfl
  m18 := by kernel_rfl
  m19 := by kernel_rfl }
def Tryd.laysFormatInt_ren : Go.Shelf.Ren := ⟨fun | 173 => 29 | 246 => 46 | 283 => 58 | 284 => 59 | 285 => 60 | 286 => 61 | 129 => 70 | 317 => 69 | 318 => 71 | 319 => 72 | 320 => 73 | 337 => 81 | 338 => 82 | n => n, fun | 2 => 2 | 3 => 3 | 9 => 9 | 4 => 4 | 171 => 83 | 0 => 0 | 53 => 84 | 37 => 52 | 5 => 5 | 173 => 87 | 212 => 96 | 51 => 97 | 20 => 20 | 213 => 98 | 46 => 99 | 232 => 114 | 233 => 115 | n => n, fun | 17 => 0 | 18 => 4 | 19 => 5 | n => n⟩
theorem Tryd.laysFormatInt : Go.Proofs.LaysM.n173 Tryd.prog Tryd.laysFormatInt_ren := {
  mixed := by kernel_rfl
  f129 := Tryd.func70.trans (congrArg some (by kernel_rfl))
  f173 := Tryd.func29.trans (congrArg some (by kernel_rfl))
  f246 := Tryd.func46.trans (congrArg some (by kernel_rfl))
  f283 := Tryd.func58.trans (congrArg some (by kernel_rfl))
  f284 := Tryd.func59.trans (congrArg some (by kernel_rfl))
  f285 := Tryd.func60.trans (congrArg some (by kernel_rfl))
  f286 := Tryd.func61.trans (congrArg some (by kernel_rfl))
  f317 := Tryd.func69.trans (congrArg some (by kernel_rfl))
  f318 := Tryd.func71.trans (congrArg some (by kernel_rfl))
  f319 := Tryd.func72.trans (congrArg some (by kernel_rfl))
  f320 := Tryd.func73.trans (congrArg some (by kernel_rfl))
  f337 := Tryd.func81.trans (congrArg some (by kernel_rfl))
  f338 := Tryd.func82.trans (congrArg some (by kernel_rfl))
  t0 := Tryd.underlying0
  a0 := Tryd.isAgg0
  z0 := Tryd.sizeOf0
  v0 := Tryd.zeroValue0
  t2 := Tryd.underlying2
  a2 := Tryd.isAgg2
  z2 := Tryd.sizeOf2
  v2 := Tryd.zeroValue2
  t3 := Tryd.underlying3
  a3 := Tryd.isAgg3
  z3 := Tryd.sizeOf3
  v3 := Tryd.zeroValue3
  t4 := Tryd.underlying4
  a4 := Tryd.isAgg4
  z4 := Tryd.sizeOf4
  v4 := Tryd.zeroValue4
  t5 := Tryd.underlying5
  a5 := Tryd.isAgg5
  z5 := Tryd.sizeOf5
  v5 := Tryd.zeroValue5
  t9 := Tryd.underlying9
  a9 := Tryd.isAgg9
  z9 := Tryd.sizeOf9
  v9 := Tryd.zeroValue9
  t20 := Tryd.underlying20
  a20 := Tryd.isAgg20
  z20 := Tryd.sizeOf20
  v20 := Tryd.zeroValue20
  t37 := Tryd.underlying52
  a37 := Tryd.isAgg52
  z37 := Tryd.sizeOf52
  v37 := Tryd.zeroValue52
  t46 := Tryd.underlying99
  a46 := Tryd.isAgg99
  z46 := Tryd.sizeOf99
  v46 := Tryd.zeroValue99
  t51 := Tryd.underlying97
  a51 := Tryd.isAgg97
  z51 := Tryd.sizeOf97
  v51 := Tryd.zeroValue97
  t53 := Tryd.underlying84
  a53 := Tryd.isAgg84
  z53 := Tryd.sizeOf84
  v53 := Tryd.zeroValue84
  t171 := Tryd.underlying83
  a171 := Tryd.isAgg83
  z171 := Tryd.sizeOf83
  v171 := Tryd.zeroValue83
  t173 := Tryd.underlying87
  a173 := Tryd.isAgg87
  z173 := Tryd.sizeOf87
  v173 := Tryd.zeroValue87
  t212 := Tryd.underlying96
  a212 := Tryd.isAgg96
  z212 := Tryd.sizeOf96
  v212 := Tryd.zeroValue96
  t213 := Tryd.underlying98
  a213 := Tryd.isAgg98
  z213 := Tryd.sizeOf98
  t232 := Tryd.underlying114
  a232 := Tryd.isAgg114
  z232 := Tryd.sizeOf114
  v232 := Tryd.zeroValue114
  t233 := Tryd.underlying115
  a233 := Tryd.isAgg115
  z233 := Tryd.sizeOf115
  v233 := Tryd.zeroValue115
  g17 := by kernel_rfl
  g18 := by kernel_rfl
  g19 := by kernel_rfl
  i0 := by kernel_rfl
  i2 := by kernel_rfl
  i3 := by kernel_rfl
  i4 := by kernel_rfl
  i5 := by kernel_rfl
  i9 := by kernel_rfl
  i20 := by kernel_rfl
  i37 := by kernel_rfl
  i46 := by kernel_rfl
  i51 := by kernel_rfl
  i53 := by kernel_rfl
  i171 := by kernel_rfl
  i173 := by kernel_rfl
  i212 := by kernel_rfl
  i232 := by kernel_rfl
  i233 := by kernel_rfl
  m17 := by kernel_rfl
  m18 := by kernel_rfl
  m19 := by kernel_rfl }
end Go.Proofs
namespace Go.Am
open Go.Proofs Go.Shelf
section
variable {K : Nat} {gw : World} {s : St}
attribute [local simp] RS_cons' RS_nil RQ_nil RQ_cons' awanted xop zOf zrow aop ev T0 Slots.put Slots.set Slots.get awr WOk AV.may ofConst abinop aint isConst St.get_push St.get_put St.live AV.fit AV.cells AV.one fieldOf afieldAddr aload ofCells astore splice May eqres env_ti FinP ares aresL ares1 Fns.addP Fns.add
theorem fnOk {E : Env} {P : Program} {f : FuncId} {fn : Func} (hP : E.P = P) (h : P.funcs[f]? = some fn) (h1 : (fn.name == "runtime.NumGoroutine") = false) (h2 : fn.body.isNone = false) : FnOk E.P f := ⟨fn, by rw [hP]; exact h, h1, h2⟩
/-- The table of the tens. -/
abbrev Tens (gw : World) : Prop := Lib.TabIs Tryd.prog gw "internal/strconv.uint64pow10" .u64 Lib.pow10Tab
theorem gTens : Tryd.prog.globalNamed "internal/strconv.uint64pow10" = some 0 := by kernel_rfl
theorem tens_of {μ : Mu} {w : World} (hK : 0 < K) (hT : Tens gw) (hR : Rel (env K gw) μ s w) : Tens w := by
  unfold Tens Lib.TabIs World.var? at *
  rw [gTens] at *
  have := hR.gl 0 hK
  simp only [Option.bind_some] at hT ⊢
  rw [this]
  exact hT
theorem ft31 (hK : 0 < K) (hT : Tens gw) {n : Int} (h0 : -9223372036854775808 ≤ n) (h1 : n ≤ 9223372036854775807) : FT (env K gw) NoW 31 [.int .i64 n] s (.str (Lib.itoa n)) s := by
  refine FT.below (fnOk env_P Tryd.func31 (by rfl) (by rfl)) fun μ w vs hR hv => ?_
  have hs : vs.size = 1 := by rw [← hv.1]; rfl
  obtain ⟨v, rfl⟩ : ∃ v, vs = #[v] := ⟨vs[0], Array.ext (by simpa using hs) (fun i h1 h2 => by simp at h2; subst h2; rfl)⟩
  have hx := hv.2 0 _ v rfl rfl
  cases hx
  refine Calls.mono (Any.strconv_Itoa Tryd.laysItoa n h0 h1 w (tens_of hK hT hR)) fun e w' he => ?_
  obtain ⟨rfl, k, os, rfl⟩ := he
  exact ⟨_, rfl, .str ⟨(Lib.itoa n).toArray⟩, Lib.below_grow _ w (Nat.le_refl _) k os⟩
theorem ft29 (hK : 0 < K) (hT : Tens gw) {n : Int} (h0 : -9223372036854775808 ≤ n) (h1 : n ≤ 9223372036854775807) : FT (env K gw) NoW 29 [.int .i64 n, .int .i64 10] s (.str (Lib.itoa n)) s := by
  refine FT.below (fnOk env_P Tryd.func29 (by rfl) (by rfl)) fun μ w vs hR hv => ?_
  have hvs1 : vs.size = 2 := by rw [← hv.1]; rfl
  obtain ⟨v, v2, rfl⟩ : ∃ v v2, vs = #[v, v2] := ⟨vs[0], vs[1], Array.ext (by simpa using hvs1) (fun i h1 h2 => by
    simp at h2
    match i, h2 with
    | 0, _ => rfl
    | 1, _ => rfl)⟩
  have hx := hv.2 0 _ v rfl rfl
  have hy := hv.2 1 _ v2 rfl rfl
  cases hx; cases hy
  refine Calls.mono (Any.strconv_FormatInt_10 Tryd.laysFormatInt n h0 h1 w (tens_of hK hT hR)) fun e w' he => ?_
  obtain ⟨rfl, k, os, rfl⟩ := he
  exact ⟨_, rfl, .str ⟨(Lib.itoa n).toArray⟩, Lib.below_grow _ w (Nat.le_refl _) k os⟩
/-- Numbers that an int holds. -/
def i64ok (n : Int) : Bool := decide (-9223372036854775808 ≤ n ∧ n ≤ 9223372036854775807)
def pItoa : List AV → Option AV
  | [.int .i64 n] => if i64ok n then some (.str (Lib.itoa n)) else none
  | _ => none
def pFmt : List AV → Option AV
  | [.int .i64 n, .int .i64 10] => if i64ok n then some (.str (Lib.itoa n)) else none
  | _ => none
def F9 : Fns := (F8.addP 31 pItoa).addP 29 pFmt
theorem F9_ok (hK : 0 < K) (hT : Tens gw) : FOk (env K gw) F9 := by
  refine (F8_ok.addP ?_).addP ?_
  · intro xs s r h
    unfold pItoa at h
    split at h
    · split at h
      · rename_i hn
        cases h
        have := of_decide_eq_true hn
        exact ft31 hK hT this.1 this.2
      · cases h
    · cases h
  · intro xs s r h
    unfold pFmt at h
    split at h
    · split at h
      · rename_i hn
        cases h
        have := of_decide_eq_true hn
        exact ft29 hK hT this.1 this.2
      · cases h
    · cases h
end
end Go.Am
namespace Go.Am
open Go.Proofs
section
variable {K : Nat} {gw : World} {s : St}
attribute [local simp] RS_cons' RS_nil RQ_nil RQ_cons' awanted xop zOf zrow aop ev T0 Slots.put Slots.set Slots.get awr WOk AV.may ofConst abinop aint isConst St.get_push St.get_put St.live AV.fit AV.cells AV.one fieldOf afieldAddr aload ofCells astore splice May eqres env_ti FinP ares aresL ares1 Fns.addP Fns.add
def txtV (v : V) : List UInt8 := if v.b then v.s else Lib.itoa v.n
def keyV (v : V) : List UInt8 := (if v.b then [115] else [110]) ++ Lib.itoa ((txtV v).length : Int) ++ [58] ++ txtV v
def keyT (l : List V) : List UInt8 := l.flatMap keyV
theorem keyV_ne (v : V) : keyV v ≠ [] := by unfold keyV; split <;> simp
theorem keyT_take {l : List V} {i : Nat} (h : i < l.length) : keyT (l.take (i + 1)) = keyT (l.take i) ++ keyV l[i] := by
  simp only [keyT]
  rw [List.take_succ_eq_append_getElem h, List.flatMap_append]
  simp
/-- A Builder and what it holds. -/
def Bld (s : St) (n id : Nat) (x : List UInt8) : Prop := ∃ p, okp id p = true ∧ ((x = [] ∧ s.get id = some (.var 54 [p, .nsl])) ∨
  (0 < x.length ∧ ∃ rd, n ≤ rd ∧ rd < s.nx ∧ s.get id = some (.var 54 [p, .ls rd 0 x.length]) ∧ s.get rd = some (.row 1 (true, 5) (byteRow x))))
/-- What a Builder's write leaves. -/
theorem write_bld {n id : Nat} {x y : List UInt8} (hB : Bld s n id x) (hid : id < s.nx) (hn : n ≤ id) (hy : 0 < y.length) (hl : x.length + y.length ≤ 140737488355328) :
    ∃ s' l, gWrite [.ptr id 0, .str y] s = some (.tup [.int .i64 y.length, .nif], s', l) ∧ (∀ i ∈ l, n ≤ i) ∧ Bld s' n id (x ++ y) ∧ s'.nx = s.nx + 1 := by
  obtain ⟨p, hp, h | ⟨h0, rd, hn2, hrd, hs, hr⟩⟩ := hB
  · obtain ⟨rfl, hs⟩ := h
    have hl' : y.length ≤ 140737488355328 := by simpa using hl
    refine ⟨_, _, by simp only [gWrite, hid, hs, hp, hl', if_true]; rfl, by simp [hn], ⟨.ptr id 0, by simp [okp], .inr ⟨by simpa using hy, s.nx, by omega, by simp, by simp, ?_⟩⟩, by simp⟩
    have : ¬ s.nx = id := by omega
    simp [St.get_put, this]
  · refine ⟨_, _, by simp only [gWrite, hid, hs, hp, hrd, hr, unrow_row, hl, if_true, true_and]; rfl, by simp [hn, hn2], ⟨.ptr id 0, by simp [okp], .inr ⟨by simp; omega, s.nx, by omega, by simp, by simp, ?_⟩⟩, by simp⟩
    have : ¬ s.nx = id := by omega
    have e : s.nx = (s.drop rd).nx := rfl
    simp only [St.get_put, this, if_false]
    rw [e, St.get_push_same]

theorem Bld.keep {s1 : St} {n id : Nat} {x : List UInt8} (h : Bld s n id x) (hid : id < s.nx) (hnx : s.nx ≤ s1.nx) (hg : ∀ j, j < s.nx → s1.get j = s.get j) : Bld s1 n id x := by
  obtain ⟨p, hp, h | ⟨h0, rd, hn2, hrd, hs, hr⟩⟩ := h
  · exact ⟨p, hp, .inl ⟨h.1, by rw [hg id hid]; exact h.2⟩⟩
  · exact ⟨p, hp, .inr ⟨h0, rd, hn2, by omega, by rw [hg id hid]; exact hs, by rw [hg rd hrd]; exact hr⟩⟩

theorem string_bld {n id : Nat} {x : List UInt8} (hB : Bld s n id x) (hid : id < s.nx) (hl : x.length ≤ 140737488355328) :
    ∃ s' l, gString [.ptr id 0] s = some (.str x, s', l) ∧ (∀ i ∈ l, n ≤ i) := by
  obtain ⟨p, hp, h | ⟨h0, rd, hn2, hrd, hs, hr⟩⟩ := hB
  · obtain ⟨rfl, hs⟩ := h
    exact ⟨_, _, by simp only [gString, hid, hs, if_true]; rfl, by simp⟩
  · exact ⟨_, _, by simp only [gString, hid, hs, hrd, hr, unrow_row, hl, h0, if_true, true_and, and_true]; rfl, by simp [hn2]⟩

theorem ft12 (hK : 0 < K) (hT : Tens gw) (l : List V) (hl : l.length < LIM) (hn : ∀ v ∈ l, i64ok v.n = true) (hk : (keyT l).length ≤ 140737488355328) : FT (env K gw) NoW 12 [.sl (l.map V.cs)] s (.str (keyT l)) s := by
  refine FT.pure (fn := Tryd.f12) (F9_ok hK hT) mixed Tryd.func12 rfl (by rfl) rfl rfl (by simp) rfl fun μ w => ?_
  repeat' (first
    | refine WP.t ?_ | refine WP.k ?_ | refine WP.e ?_ | refine Qn ?_ | refine Qr ?_ | refine Qe ?_ | refine Bn ?_ | refine Br ?_ | refine Be ?_ | refine Bx (by decide) ?_
    | (refine WP.sr fun k hk => ?_; simp [abuiltin, alenOk, alen, ti22, ti54]; refine hk _ _ ?_; clear hk k) | (refine WP.r fun k hk => ?_; simp [abuiltin, alenOk, alen, ti22, ti54]; refine hk _ _ ?_; clear hk k)
    | (refine WP.sd _ rfl fun k hk => ?_; simp [abuiltin, alenOk, alen, ti22, ti54]; refine hk _ _ ?_; clear hk k) | (refine WP.d _ rfl fun k hk => ?_; simp [abuiltin, alenOk, alen, ti22, ti54]; refine hk _ _ ?_; clear hk k)
    | (refine WP.cc fun A B hA hB => ?_; simp [abuiltin, alenOk, alen, ti22, ti54, onB_t, onB_f]; first | (refine hA ?_; clear hA hB) | (refine hB ?_; clear hA hB) | (refine onB_if (fun h => hA ?_) (fun h => hB ?_) <;> clear hA hB))
    | refine WP.q ?_ | refine WP.b ?_)
  refine WP_loop (fun n T s' => ∃ i : Nat, n + i = l.length ∧ T.get 3 = .ptr s.nx 0 ∧ T.get 8 = .sl (l.map V.cs) ∧ T.get 9 = .int .i64 l.length ∧ T.get 10 = .int .i64 i ∧ s.nx < s'.nx ∧ Bld s' s.nx s.nx (keyT (l.take i))) l.length ⟨0, by simp, by simp, by simp, by simp, by simp, by simp, ⟨.np, by simp [okp], .inl ⟨by simp [keyT], by simp⟩⟩⟩ ?_
  rintro n T s' ⟨i, hni, h3, h8, h9, h10, hnx, hB⟩
  by_cases hi : i < l.length
  · have hw : IntKind.i64.wrap ((i : Int) + 1) = (i : Int) + 1 := wrap64 (by omega) (by simp only [LIM] at hl; omega)
    have ha : l[i]? = some l[i] := List.getElem?_eq_getElem hi
    have hlt : ((i : Int) < (l.length : Int)) := by omega
    have hin := hn l[i] (List.getElem_mem hi)
    have hke := keyT_take hi
    generalize hv : l[i] = v at *
    have hle : s.nx ≤ s'.nx := by omega
    refine WP.sr fun k hk => ?_
    simp [h9, h10, hlt]
    refine hk _ _ ?_; clear hk k
    refine WP.q (WP.cc fun A B hA hB => ?_)
    simp [onB_t]
    refine hA (WP.k (Qn ?_)); clear hA hB A B
    refine WP.q (WP.b ?_)
    refine WP.sr fun k hk => ?_
    simp [h3, h8, h9, h10, hi, ha, aindex, elemOfT, ti22, ti34, V.cs, hle]
    refine hk _ _ ?_; clear hk k
    generalize hs1 : St.put _ _ _ = s1
    have hb1 : Bld s1 s.nx s.nx (keyT (l.take i)) := hB.keep hnx (by rw [← hs1]; simp) fun j hj => by
      have : ¬ j = s'.nx := by omega
      rw [← hs1]; simp [St.get_put, St.get_push, this]
    have hg1 : s1.get s'.nx = some (.var 34 v.cs) := by rw [← hs1, ← hv]; simp [V.cs]
    have hn1 : s1.nx = s'.nx + 1 := by rw [← hs1]; simp
    have hkt : (keyT (l.take (i + 1))).length ≤ 140737488355328 := by
      have e : keyT l = keyT (l.take (i + 1)) ++ keyT (l.drop (i + 1)) := by
        unfold keyT
        rw [← List.flatMap_append, List.take_append_drop]
      rw [e, List.length_append] at hk
      omega
    have hkl : (keyV v).length ≤ 140737488355328 := by
      have h := congrArg List.length hke
      rw [List.length_append] at h
      omega
    obtain ⟨s2, l2, hwr, hl2, hb2, hn2⟩ := write_bld (y := keyV v) hb1 (by omega) (Nat.le_refl _) (List.length_pos_iff.2 (keyV_ne v)) (by
      have h := congrArg List.length hke
      rw [List.length_append] at h
      omega)
    have hin2 : i64ok ((txtV v).length : Int) = true := by
      have : (txtV v).length ≤ (keyV v).length := by unfold keyV; simp only [List.length_append]; omega
      simp only [i64ok, decide_eq_true_eq]; omega
    obtain ⟨vb, vs, vn⟩ := v
    cases vb
    · simp [keyV, txtV, V.cs] at hwr hin2 hg1 hin hkl
      have c1 : 1 + (Lib.itoa ((Lib.itoa vn).length : Int)).length ≤ 9223372036854775807 := by omega
      have c2 : (Lib.itoa ((Lib.itoa vn).length : Int)).length + 1 + 1 ≤ 9223372036854775807 := by omega
      have c3 : (Lib.itoa ((Lib.itoa vn).length : Int)).length + 1 + 1 + (Lib.itoa vn).length ≤ 9223372036854775807 := by omega
      repeat' (first
        | refine WP.t ?_ | refine WP.k ?_ | refine WP.e ?_ | refine Qn ?_ | refine Qr ?_ | refine Qe ?_ | refine Bn ?_ | refine Br ?_ | refine Be ?_ | refine Bx (by decide) ?_
        | (refine WP.sr fun k hk => ?_; simp [h3, h8, h9, h10, hlt, hi, ha, hw, hg1, hwr, hin2, hle, hl2, ti22, ti34, ti2, ti4, ti9, F9, F8, F7, F6, F5, pFmt, pItoa, hin, astrop, abuiltin, alen, alenOk, c1, c2, c3]; refine hk _ _ ?_; clear hk k) | (refine WP.r fun k hk => ?_; simp [h3, h8, h9, h10, hlt, hi, ha, hw, hg1, hwr, hin2, hle, hl2, ti22, ti34, ti2, ti4, ti9, F9, F8, F7, F6, F5, pFmt, pItoa, hin, astrop, abuiltin, alen, alenOk, c1, c2, c3]; refine hk _ _ ?_; clear hk k)
        | (refine WP.sd _ rfl fun k hk => ?_; simp [h3, h8, h9, h10, hlt, hi, ha, hw, hg1, hwr, hin2, hle, hl2, ti22, ti34, ti2, ti4, ti9, F9, F8, F7, F6, F5, pFmt, pItoa, hin, astrop, abuiltin, alen, alenOk, c1, c2, c3]; refine hk _ _ ?_; clear hk k) | (refine WP.d _ rfl fun k hk => ?_; simp [h3, h8, h9, h10, hlt, hi, ha, hw, hg1, hwr, hin2, hle, hl2, ti22, ti34, ti2, ti4, ti9, F9, F8, F7, F6, F5, pFmt, pItoa, hin, astrop, abuiltin, alen, alenOk, c1, c2, c3]; refine hk _ _ ?_; clear hk k)
        | (refine WP.cc fun A B hA hB => ?_; simp [h3, h8, h9, h10, hlt, hi, ha, hw, hg1, hwr, hin2, hle, hl2, ti22, ti34, ti2, ti4, ti9, F9, F8, F7, F6, F5, pFmt, pItoa, hin, astrop, abuiltin, alen, alenOk, c1, c2, c3, onB_t, onB_f]; first | (refine hA ?_; clear hA hB) | (refine hB ?_; clear hA hB) | (refine onB_if (fun h => hA ?_) (fun h => hB ?_) <;> clear hA hB))
        | refine WP.q ?_ | refine WP.b ?_)
      refine WP.r fun k hk => ?_
      simp [h3, h8, h9, h10, hlt, hi, ha, hw, hg1, hwr, hin2, hle, hl2, ti22, ti34, ti2, ti4, ti9, F9, F8, F7, F6, F5, pFmt, pItoa, hin, astrop, abuiltin, alen, alenOk, c1, c2, c3]
      refine ⟨hl2, hk _ _ ?_⟩
      clear hk k
      repeat' (first
        | refine WP.t ?_ | refine WP.k ?_ | refine WP.e ?_ | refine Qn ?_ | refine Qr ?_ | refine Qe ?_ | refine Bn ?_ | refine Br ?_ | refine Be ?_ | refine Bx (by decide) ?_
        | (refine WP.sr fun k hk => ?_; simp [h3, h8, h9, h10, hlt, hi, ha, hw, hg1, hwr, hin2, hle, hl2, ti22, ti34, ti2, ti4, ti9, F9, F8, F7, F6, F5, pFmt, pItoa, hin, astrop, abuiltin, alen, alenOk]; refine hk _ _ ?_; clear hk k) | (refine WP.r fun k hk => ?_; simp [h3, h8, h9, h10, hlt, hi, ha, hw, hg1, hwr, hin2, hle, hl2, ti22, ti34, ti2, ti4, ti9, F9, F8, F7, F6, F5, pFmt, pItoa, hin, astrop, abuiltin, alen, alenOk]; refine hk _ _ ?_; clear hk k)
        | (refine WP.sd _ rfl fun k hk => ?_; simp [h3, h8, h9, h10, hlt, hi, ha, hw, hg1, hwr, hin2, hle, hl2, ti22, ti34, ti2, ti4, ti9, F9, F8, F7, F6, F5, pFmt, pItoa, hin, astrop, abuiltin, alen, alenOk]; refine hk _ _ ?_; clear hk k) | (refine WP.d _ rfl fun k hk => ?_; simp [h3, h8, h9, h10, hlt, hi, ha, hw, hg1, hwr, hin2, hle, hl2, ti22, ti34, ti2, ti4, ti9, F9, F8, F7, F6, F5, pFmt, pItoa, hin, astrop, abuiltin, alen, alenOk]; refine hk _ _ ?_; clear hk k)
        | (refine WP.cc fun A B hA hB => ?_; simp [h3, h8, h9, h10, hlt, hi, ha, hw, hg1, hwr, hin2, hle, hl2, ti22, ti34, ti2, ti4, ti9, F9, F8, F7, F6, F5, pFmt, pItoa, hin, astrop, abuiltin, alen, alenOk, onB_t, onB_f]; first | (refine hA ?_; clear hA hB) | (refine hB ?_; clear hA hB) | (refine onB_if (fun h => hA ?_) (fun h => hB ?_) <;> clear hA hB))
        | refine WP.q ?_ | refine WP.b ?_)
      exact ⟨n - 1, by omega, i + 1, by omega, by simp [h3], by simp [h8], by simp [h9], by simp, by omega, by rw [hke]; exact hb2⟩
    · simp [keyV, txtV, V.cs] at hwr hin2 hg1 hin hkl
      have c1 : 1 + (Lib.itoa ((vs).length : Int)).length ≤ 9223372036854775807 := by omega
      have c2 : (Lib.itoa ((vs).length : Int)).length + 1 + 1 ≤ 9223372036854775807 := by omega
      have c3 : (Lib.itoa ((vs).length : Int)).length + 1 + 1 + (vs).length ≤ 9223372036854775807 := by omega
      repeat' (first
        | refine WP.t ?_ | refine WP.k ?_ | refine WP.e ?_ | refine Qn ?_ | refine Qr ?_ | refine Qe ?_ | refine Bn ?_ | refine Br ?_ | refine Be ?_ | refine Bx (by decide) ?_
        | (refine WP.sr fun k hk => ?_; simp [h3, h8, h9, h10, hlt, hi, ha, hw, hg1, hwr, hin2, hle, hl2, ti22, ti34, ti2, ti4, ti9, F9, F8, F7, F6, F5, pFmt, pItoa, hin, astrop, abuiltin, alen, alenOk, c1, c2, c3]; refine hk _ _ ?_; clear hk k) | (refine WP.r fun k hk => ?_; simp [h3, h8, h9, h10, hlt, hi, ha, hw, hg1, hwr, hin2, hle, hl2, ti22, ti34, ti2, ti4, ti9, F9, F8, F7, F6, F5, pFmt, pItoa, hin, astrop, abuiltin, alen, alenOk, c1, c2, c3]; refine hk _ _ ?_; clear hk k)
        | (refine WP.sd _ rfl fun k hk => ?_; simp [h3, h8, h9, h10, hlt, hi, ha, hw, hg1, hwr, hin2, hle, hl2, ti22, ti34, ti2, ti4, ti9, F9, F8, F7, F6, F5, pFmt, pItoa, hin, astrop, abuiltin, alen, alenOk, c1, c2, c3]; refine hk _ _ ?_; clear hk k) | (refine WP.d _ rfl fun k hk => ?_; simp [h3, h8, h9, h10, hlt, hi, ha, hw, hg1, hwr, hin2, hle, hl2, ti22, ti34, ti2, ti4, ti9, F9, F8, F7, F6, F5, pFmt, pItoa, hin, astrop, abuiltin, alen, alenOk, c1, c2, c3]; refine hk _ _ ?_; clear hk k)
        | (refine WP.cc fun A B hA hB => ?_; simp [h3, h8, h9, h10, hlt, hi, ha, hw, hg1, hwr, hin2, hle, hl2, ti22, ti34, ti2, ti4, ti9, F9, F8, F7, F6, F5, pFmt, pItoa, hin, astrop, abuiltin, alen, alenOk, c1, c2, c3, onB_t, onB_f]; first | (refine hA ?_; clear hA hB) | (refine hB ?_; clear hA hB) | (refine onB_if (fun h => hA ?_) (fun h => hB ?_) <;> clear hA hB))
        | refine WP.q ?_ | refine WP.b ?_)
      refine WP.r fun k hk => ?_
      simp [h3, h8, h9, h10, hlt, hi, ha, hw, hg1, hwr, hin2, hle, hl2, ti22, ti34, ti2, ti4, ti9, F9, F8, F7, F6, F5, pFmt, pItoa, hin, astrop, abuiltin, alen, alenOk, c1, c2, c3]
      refine ⟨hl2, hk _ _ ?_⟩
      clear hk k
      repeat' (first
        | refine WP.t ?_ | refine WP.k ?_ | refine WP.e ?_ | refine Qn ?_ | refine Qr ?_ | refine Qe ?_ | refine Bn ?_ | refine Br ?_ | refine Be ?_ | refine Bx (by decide) ?_
        | (refine WP.sr fun k hk => ?_; simp [h3, h8, h9, h10, hlt, hi, ha, hw, hg1, hwr, hin2, hle, hl2, ti22, ti34, ti2, ti4, ti9, F9, F8, F7, F6, F5, pFmt, pItoa, hin, astrop, abuiltin, alen, alenOk]; refine hk _ _ ?_; clear hk k) | (refine WP.r fun k hk => ?_; simp [h3, h8, h9, h10, hlt, hi, ha, hw, hg1, hwr, hin2, hle, hl2, ti22, ti34, ti2, ti4, ti9, F9, F8, F7, F6, F5, pFmt, pItoa, hin, astrop, abuiltin, alen, alenOk]; refine hk _ _ ?_; clear hk k)
        | (refine WP.sd _ rfl fun k hk => ?_; simp [h3, h8, h9, h10, hlt, hi, ha, hw, hg1, hwr, hin2, hle, hl2, ti22, ti34, ti2, ti4, ti9, F9, F8, F7, F6, F5, pFmt, pItoa, hin, astrop, abuiltin, alen, alenOk]; refine hk _ _ ?_; clear hk k) | (refine WP.d _ rfl fun k hk => ?_; simp [h3, h8, h9, h10, hlt, hi, ha, hw, hg1, hwr, hin2, hle, hl2, ti22, ti34, ti2, ti4, ti9, F9, F8, F7, F6, F5, pFmt, pItoa, hin, astrop, abuiltin, alen, alenOk]; refine hk _ _ ?_; clear hk k)
        | (refine WP.cc fun A B hA hB => ?_; simp [h3, h8, h9, h10, hlt, hi, ha, hw, hg1, hwr, hin2, hle, hl2, ti22, ti34, ti2, ti4, ti9, F9, F8, F7, F6, F5, pFmt, pItoa, hin, astrop, abuiltin, alen, alenOk, onB_t, onB_f]; first | (refine hA ?_; clear hA hB) | (refine hB ?_; clear hA hB) | (refine onB_if (fun h => hA ?_) (fun h => hB ?_) <;> clear hA hB))
        | refine WP.q ?_ | refine WP.b ?_)
      exact ⟨n - 1, by omega, i + 1, by omega, by simp [h3], by simp [h8], by simp [h9], by simp, by omega, by rw [hke]; exact hb2⟩
  · have hlt : ¬ ((i : Int) < (l.length : Int)) := by omega
    have he : i = l.length := by omega
    subst he
    rw [List.take_length] at hB
    obtain ⟨s2, l2, hst, hl2⟩ := string_bld hB hnx hk
    refine WP.sr fun k hk => ?_
    simp [h9, h10, hlt]
    refine hk _ _ ?_; clear hk k
    refine WP.q (WP.cc fun A B hA hB => ?_)
    simp [onB_f]
    refine hB (WP.e (Qe (Qe (Be (Qn ?_))))); clear hA hB A B
    refine WP.sr fun k hk => ?_
    simp [h3, F9, F8, hst]
    refine ⟨hl2, hk _ _ (WP.t ?_)⟩
    simp
end
end Go.Am
namespace Go.Am
open Go.Proofs
section
variable {K : Nat} {gw : World} {s : St}
attribute [local simp] RS_cons' RS_nil RQ_nil RQ_cons' awanted xop zOf zrow aop ev T0 Slots.put Slots.set Slots.get awr WOk AV.may ofConst abinop aint isConst St.get_push St.get_put St.live AV.fit AV.cells AV.one fieldOf afieldAddr aload ofCells astore splice May eqres env_ti FinP ares aresL ares1 Fns.addP Fns.add
theorem ft53 (hK : 0 < K) (hT : Tens gw) (x : List UInt8) : FT (env K gw) NoW 53 [.str x] s (.agg [.bool true, .str x, .int .i64 0]) s := by
  refine FT.pure (fn := Tryd.f53) (F9_ok hK hT) mixed Tryd.func53 (by kernel_rfl) (by rfl) rfl rfl (by simp) rfl fun μ w => ?_
  repeat' (first
    | refine WP.t ?_ | refine WP.k ?_ | refine WP.e ?_ | refine Qn ?_ | refine Qr ?_ | refine Qe ?_ | refine Bn ?_ | refine Br ?_ | refine Be ?_ | refine Bx (by decide) ?_
    | (refine WP.sr fun k hk => ?_; simp [ti34, abuild, afill, placesOf, ti4, ti9, ti2]; refine hk _ _ ?_; clear hk k) | (refine WP.r fun k hk => ?_; simp [ti34, abuild, afill, placesOf, ti4, ti9, ti2]; refine hk _ _ ?_; clear hk k)
    | (refine WP.sd _ rfl fun k hk => ?_; simp [ti34, abuild, afill, placesOf, ti4, ti9, ti2]; refine hk _ _ ?_; clear hk k) | (refine WP.d _ rfl fun k hk => ?_; simp [ti34, abuild, afill, placesOf, ti4, ti9, ti2]; refine hk _ _ ?_; clear hk k)
    | (refine WP.cc fun A B hA hB => ?_; simp [ti34, abuild, afill, placesOf, ti4, ti9, ti2, onB_t, onB_f]; first | (refine hA ?_; clear hA hB) | (refine hB ?_; clear hA hB) | (refine onB_if (fun h => hA ?_) (fun h => hB ?_) <;> clear hA hB))
    | refine WP.q ?_ | refine WP.b ?_)
  simp [ti34]
theorem ft55 (hK : 0 < K) (hT : Tens gw) (n : Int) : FT (env K gw) NoW 55 [.int .i64 n] s (.agg [.bool false, .str [], .int .i64 n]) s := by
  refine FT.pure (fn := Tryd.f55) (F9_ok hK hT) mixed Tryd.func55 (by kernel_rfl) (by rfl) rfl rfl (by simp) rfl fun μ w => ?_
  repeat' (first
    | refine WP.t ?_ | refine WP.k ?_ | refine WP.e ?_ | refine Qn ?_ | refine Qr ?_ | refine Qe ?_ | refine Bn ?_ | refine Br ?_ | refine Be ?_ | refine Bx (by decide) ?_
    | (refine WP.sr fun k hk => ?_; simp [ti34, abuild, afill, placesOf, ti4, ti9, ti2]; refine hk _ _ ?_; clear hk k) | (refine WP.r fun k hk => ?_; simp [ti34, abuild, afill, placesOf, ti4, ti9, ti2]; refine hk _ _ ?_; clear hk k)
    | (refine WP.sd _ rfl fun k hk => ?_; simp [ti34, abuild, afill, placesOf, ti4, ti9, ti2]; refine hk _ _ ?_; clear hk k) | (refine WP.d _ rfl fun k hk => ?_; simp [ti34, abuild, afill, placesOf, ti4, ti9, ti2]; refine hk _ _ ?_; clear hk k)
    | (refine WP.cc fun A B hA hB => ?_; simp [ti34, abuild, afill, placesOf, ti4, ti9, ti2, onB_t, onB_f]; first | (refine hA ?_; clear hA hB) | (refine hB ?_; clear hA hB) | (refine onB_if (fun h => hA ?_) (fun h => hB ?_) <;> clear hA hB))
    | refine WP.q ?_ | refine WP.b ?_)
  simp [ti34]
def pSym : List AV → Option AV
  | [.str x] => some (.agg [.bool true, .str x, .int .i64 0])
  | _ => none
def pInt : List AV → Option AV
  | [.int .i64 n] => some (.agg [.bool false, .str [], .int .i64 n])
  | _ => none
def F10 : Fns := (F9.addP 53 pSym).addP 55 pInt
theorem F10_ok (hK : 0 < K) (hT : Tens gw) : FOk (env K gw) F10 := by
  refine ((F9_ok hK hT).addP ?_).addP ?_
  · intro xs s r h; unfold pSym at h; split at h <;> cases h; exact ft53 hK hT _
  · intro xs s r h; unfold pInt at h; split at h <;> cases h; exact ft55 hK hT _
def bareV (v : V) : V := if v.b then ⟨true, v.s, 0⟩ else ⟨false, [], v.n⟩
theorem ft41 (hK : 0 < K) (hT : Tens gw) (v : V) : FT (env K gw) NoW 41 [.agg v.cs] s (.agg (bareV v).cs) s := by
  refine FT.pure (fn := Tryd.f41) (F10_ok hK hT) mixed Tryd.func41 (by kernel_rfl) (by rfl) rfl rfl (by simp) rfl fun μ w => ?_
  obtain ⟨b, x, n⟩ := v
  cases b
  all_goals
    repeat' (first
      | refine WP.t ?_ | refine WP.k ?_ | refine WP.e ?_ | refine Qn ?_ | refine Qr ?_ | refine Qe ?_ | refine Bn ?_ | refine Br ?_ | refine Be ?_ | refine Bx (by decide) ?_
      | (refine WP.sr fun k hk => ?_; simp [F10, pSym, pInt, ti34, ti4, ti9, ti2, V.cs]; refine hk _ _ ?_; clear hk k) | (refine WP.r fun k hk => ?_; simp [F10, pSym, pInt, ti34, ti4, ti9, ti2, V.cs]; refine hk _ _ ?_; clear hk k)
      | (refine WP.sd _ rfl fun k hk => ?_; simp [F10, pSym, pInt, ti34, ti4, ti9, ti2, V.cs]; refine hk _ _ ?_; clear hk k) | (refine WP.d _ rfl fun k hk => ?_; simp [F10, pSym, pInt, ti34, ti4, ti9, ti2, V.cs]; refine hk _ _ ?_; clear hk k)
      | (refine WP.cc fun A B hA hB => ?_; simp [F10, pSym, pInt, ti34, ti4, ti9, ti2, V.cs, onB_t, onB_f]; first | (refine hA ?_; clear hA hB) | (refine hB ?_; clear hA hB) | (refine onB_if (fun h => hA ?_) (fun h => hB ?_) <;> clear hA hB))
      | refine WP.q ?_ | refine WP.b ?_)
    simp [ti34, bareV, V.cs]
def pBare : List AV → Option AV
  | [.agg c] => (decV c).map fun v => .agg (bareV v).cs
  | _ => none
def F11 : Fns := F10.addP 41 pBare
theorem F11_ok (hK : 0 < K) (hT : Tens gw) : FOk (env K gw) F11 := by
  refine (F10_ok hK hT).addP ?_
  intro xs s r h
  unfold pBare at h
  split at h
  · obtain ⟨v, hv, rfl⟩ := Option.map_eq_some_iff.1 h
    rw [decV_eq hv]
    exact ft41 hK hT v
  · cases h
theorem bare_cs_len (v : V) : v.cs.length = 3 := rfl
theorem bare_cs_one (v : V) : v.cs.all AV.one = true := rfl
theorem ft25 (hK : 0 < K) (hT : Tens gw) (l : List V) (hl : l.length < 1073741824) : FT (env K gw) NoW 25 [.sl (l.map V.cs)] s (.sl ((l.map bareV).map V.cs)) s := by
  refine FT.data (fn := Tryd.f25) (F11_ok hK hT) mixed Tryd.func25 (by kernel_rfl) (by rfl) rfl rfl (by simp) rfl fun μ w => ?_
  repeat' (first
    | refine WP.t ?_ | refine WP.k ?_ | refine WP.e ?_ | refine Qn ?_ | refine Qr ?_ | refine Qe ?_ | refine Bn ?_ | refine Br ?_ | refine Be ?_ | refine Bx (by decide) ?_
    | (refine WP.sr fun k hk => ?_; simp [abuiltin, alenOk, alen, ti22]; refine hk _ _ ?_; clear hk k) | (refine WP.r fun k hk => ?_; simp [abuiltin, alenOk, alen, ti22]; refine hk _ _ ?_; clear hk k)
    | (refine WP.sd _ rfl fun k hk => ?_; simp [abuiltin, alenOk, alen, ti22]; refine hk _ _ ?_; clear hk k) | (refine WP.d _ rfl fun k hk => ?_; simp [abuiltin, alenOk, alen, ti22]; refine hk _ _ ?_; clear hk k)
    | (refine WP.cc fun A B hA hB => ?_; simp [abuiltin, alenOk, alen, ti22, onB_t, onB_f]; first | (refine hA ?_; clear hA hB) | (refine hB ?_; clear hA hB) | (refine onB_if (fun h => hA ?_) (fun h => hB ?_) <;> clear hA hB))
    | refine WP.q ?_ | refine WP.b ?_)
  refine WP_loop (fun n T s' => ∃ i : Nat, n + i = l.length ∧ T.get 6 = .sl (l.map V.cs) ∧ T.get 7 = .int .i64 l.length ∧ T.get 8 = .int .i64 i ∧ s.nx ≤ s'.nx ∧
    ((i = 0 ∧ T.get 3 = .nsl) ∨ (0 < i ∧ ∃ rd, s.nx ≤ rd ∧ rd < s'.nx ∧ T.get 3 = .ls rd 0 i ∧ s'.get rd = some (.row 3 (true, 34) (((l.take i).map bareV).map V.cs))))) l.length ⟨0, by simp, by simp, by simp, by simp, by simp, .inl ⟨rfl, by simp⟩⟩ ?_
  rintro n T s' ⟨i, hni, h6, h7, h8, hnx, hB⟩
  by_cases hi : i < l.length
  · have hw : IntKind.i64.wrap ((i : Int) + 1) = (i : Int) + 1 := wrap64 (by omega) (by omega)
    have ha : l[i]? = some l[i] := List.getElem?_eq_getElem hi
    have hlt : ((i : Int) < (l.length : Int)) := by omega
    have htk : l.take (i + 1) = l.take i ++ [l[i]] := List.take_succ_eq_append_getElem hi
    generalize hv : l[i] = v at *
    rcases hB with ⟨rfl, h3⟩ | ⟨hi0, rd, hrd, hrd2, h3, hr⟩
    · skip
      repeat' (first
        | refine WP.t ?_ | refine WP.k ?_ | refine WP.e ?_ | refine Qn ?_ | refine Qr ?_ | refine Qe ?_ | refine Bn ?_ | refine Br ?_ | refine Be ?_ | refine Bx (by decide) ?_
        | (refine WP.sr fun k hk => ?_; simp [F11, pBare, decV, h3, h6, h7, h8, hlt, hi, ha, hw, hnx, aindex, elemOfT, elemId, ti22, ti34, V.cs, abuildSlice, afill, chunks, abuiltin, ard, aappend, isSS, AV.isStr]; refine hk _ _ ?_; clear hk k) | (refine WP.r fun k hk => ?_; simp [F11, pBare, decV, h3, h6, h7, h8, hlt, hi, ha, hw, hnx, aindex, elemOfT, elemId, ti22, ti34, V.cs, abuildSlice, afill, chunks, abuiltin, ard, aappend, isSS, AV.isStr]; refine hk _ _ ?_; clear hk k)
        | (refine WP.sd _ rfl fun k hk => ?_; simp [F11, pBare, decV, h3, h6, h7, h8, hlt, hi, ha, hw, hnx, aindex, elemOfT, elemId, ti22, ti34, V.cs, abuildSlice, afill, chunks, abuiltin, ard, aappend, isSS, AV.isStr]; refine hk _ _ ?_; clear hk k) | (refine WP.d _ rfl fun k hk => ?_; simp [F11, pBare, decV, h3, h6, h7, h8, hlt, hi, ha, hw, hnx, aindex, elemOfT, elemId, ti22, ti34, V.cs, abuildSlice, afill, chunks, abuiltin, ard, aappend, isSS, AV.isStr]; refine hk _ _ ?_; clear hk k)
        | (refine WP.cc fun A B hA hB => ?_; simp [F11, pBare, decV, h3, h6, h7, h8, hlt, hi, ha, hw, hnx, aindex, elemOfT, elemId, ti22, ti34, V.cs, abuildSlice, afill, chunks, abuiltin, ard, aappend, isSS, AV.isStr, onB_t, onB_f]; first | (refine hA ?_; clear hA hB) | (refine hB ?_; clear hA hB) | (refine onB_if (fun h => hA ?_) (fun h => hB ?_) <;> clear hA hB))
        | refine WP.q ?_ | refine WP.b ?_)
      refine ⟨n - 1, by omega, 1, by omega, by simp [h6], by simp [h7], by simp [wrap64 (x := 1) (by omega) (by omega)], by simp; omega, .inr ⟨by omega, s'.nx + 1 + 1, by omega, by simp, by simp, ?_⟩⟩
      rw [htk, ← hv]
      simp [V.cs]
    · have n1 : ¬ rd = s'.nx := by omega
      have n2 : ¬ rd = s'.nx + 1 := by omega
      have hmin : min i l.length = i := by omega
      have hby : (i + 1) * 32 ≤ 140737488355328 := by omega
      repeat' (first
        | refine WP.t ?_ | refine WP.k ?_ | refine WP.e ?_ | refine Qn ?_ | refine Qr ?_ | refine Qe ?_ | refine Bn ?_ | refine Br ?_ | refine Be ?_ | refine Bx (by decide) ?_
        | (refine WP.sr fun k hk => ?_; simp [F11, pBare, decV, h3, h6, h7, h8, hlt, hi, ha, hw, hnx, aindex, elemOfT, elemId, ti22, ti34, V.cs, abuildSlice, afill, chunks, abuiltin, ard, aappend, isSS, AV.isStr, hr, n1, n2, hmin, hby, hrd]; refine hk _ _ ?_; clear hk k) | (refine WP.r fun k hk => ?_; simp [F11, pBare, decV, h3, h6, h7, h8, hlt, hi, ha, hw, hnx, aindex, elemOfT, elemId, ti22, ti34, V.cs, abuildSlice, afill, chunks, abuiltin, ard, aappend, isSS, AV.isStr, hr, n1, n2, hmin, hby, hrd]; refine hk _ _ ?_; clear hk k)
        | (refine WP.sd _ rfl fun k hk => ?_; simp [F11, pBare, decV, h3, h6, h7, h8, hlt, hi, ha, hw, hnx, aindex, elemOfT, elemId, ti22, ti34, V.cs, abuildSlice, afill, chunks, abuiltin, ard, aappend, isSS, AV.isStr, hr, n1, n2, hmin, hby, hrd]; refine hk _ _ ?_; clear hk k) | (refine WP.d _ rfl fun k hk => ?_; simp [F11, pBare, decV, h3, h6, h7, h8, hlt, hi, ha, hw, hnx, aindex, elemOfT, elemId, ti22, ti34, V.cs, abuildSlice, afill, chunks, abuiltin, ard, aappend, isSS, AV.isStr, hr, n1, n2, hmin, hby, hrd]; refine hk _ _ ?_; clear hk k)
        | (refine WP.cc fun A B hA hB => ?_; simp [F11, pBare, decV, h3, h6, h7, h8, hlt, hi, ha, hw, hnx, aindex, elemOfT, elemId, ti22, ti34, V.cs, abuildSlice, afill, chunks, abuiltin, ard, aappend, isSS, AV.isStr, hr, n1, n2, hmin, hby, hrd, onB_t, onB_f]; first | (refine hA ?_; clear hA hB) | (refine hB ?_; clear hA hB) | (refine onB_if (fun h => hA ?_) (fun h => hB ?_) <;> clear hA hB))
        | refine WP.q ?_ | refine WP.b ?_)
      refine ⟨n - 1, by omega, i + 1, by omega, by simp [h6], by simp [h7], by simp, by simp; omega, .inr ⟨by omega, s'.nx + 1 + 1, by omega, by simp, by simp, ?_⟩⟩
      have e2 : ∀ s2 : St, s2.nx = s'.nx + 1 + 1 → ∀ o, (s2.push o).get (s'.nx + 1 + 1) = some o := fun s2 h o => by rw [← h]; exact St.get_push_same _ _
      rw [e2 _ (by simp), htk, ← hv]
      simp only [List.map_append, List.map_cons, List.map_nil]
      have e3 : List.map V.cs (List.map bareV (List.take i l)) = List.take i (List.map (V.cs ∘ bareV) l) := by simp
      rw [e3]
      rfl
  · have hlt : ¬ ((i : Int) < (l.length : Int)) := by omega
    have he : i = l.length := by omega
    repeat' (first
      | refine WP.t ?_ | refine WP.k ?_ | refine WP.e ?_ | refine Qn ?_ | refine Qr ?_ | refine Qe ?_ | refine Bn ?_ | refine Br ?_ | refine Be ?_ | refine Bx (by decide) ?_
      | (refine WP.sr fun k hk => ?_; simp [h6, h7, h8, hlt]; refine hk _ _ ?_; clear hk k) | (refine WP.r fun k hk => ?_; simp [h6, h7, h8, hlt]; refine hk _ _ ?_; clear hk k)
      | (refine WP.sd _ rfl fun k hk => ?_; simp [h6, h7, h8, hlt]; refine hk _ _ ?_; clear hk k) | (refine WP.d _ rfl fun k hk => ?_; simp [h6, h7, h8, hlt]; refine hk _ _ ?_; clear hk k)
      | (refine WP.cc fun A B hA hB => ?_; simp [h6, h7, h8, hlt, onB_t, onB_f]; first | (refine hA ?_; clear hA hB) | (refine hB ?_; clear hA hB) | (refine onB_if (fun h => hA ?_) (fun h => hB ?_) <;> clear hA hB))
      | refine WP.q ?_ | refine WP.b ?_)
    rcases hB with ⟨h0, h3⟩ | ⟨hi0, rd, hrd, hrd2, h3, hr⟩
    · have : l = [] := List.eq_nil_of_length_eq_zero (by omega)
      subst this
      exact ⟨.inr rfl, .nsl, by simp [h3], .nil⟩
    · have ht : l.take i = l := by rw [he, List.take_length]
      rw [ht] at hr
      refine ⟨.inr rfl, .ls rd 0 i, by simp [h3], ?_⟩
      have hlen : i = (List.map V.cs (List.map bareV l)).length := by simp [he]
      rw [hlen]
      refine .row rd 3 _ _ _ hr hrd rfl (fun e he => ?_) (fun i j y hy => ⟨y, hy⟩) (fun i j x y hx hy => ?_)
      · obtain ⟨v, _, rfl⟩ := List.mem_map.1 he; rfl
      · rw [hx] at hy
        obtain rfl := Option.some.inj hy
        refine .same x ?_
        have : Below s.nx (.sl (List.map V.cs (List.map bareV l))) := by simp [V.cs]
        cases this with
        | sl _ h => exact h i j x hx
def pOf : List AV → Option AV
  | [.sl a] => match decL a with
    | some l => if l.length < 1073741824 then some (.sl ((l.map bareV).map V.cs)) else none
    | none => none
  | _ => none
def okT (l : List V) : Bool := decide (l.length < LIM) && (l.all fun v => i64ok v.n) && decide ((keyT l).length ≤ 140737488355328)
def F12 : Fns := ((F11.addP 12 (fun xs => match xs with
  | [.sl a] => match decL a with
    | some l => if okT l = true then some (.str (keyT l)) else none
    | none => none
  | _ => none)).addP 25 pOf)
theorem F12_ok (hK : 0 < K) (hT : Tens gw) : FOk (env K gw) F12 := by
  refine ((F11_ok hK hT).addP ?_).addP ?_
  · intro xs s r h
    split at h
    · split at h
      · rename_i l hl
        split at h
        · rename_i hc
          cases h
          rw [decL_eq hl]
          simp only [okT, Bool.and_eq_true, decide_eq_true_eq] at hc
          exact ft12 hK hT l hc.1.1 (fun v hv => List.all_eq_true.1 hc.1.2 v hv) hc.2
        · cases h
      · cases h
    · cases h
  · intro xs s r h
    unfold pOf at h
    split at h
    · split at h
      · rename_i l hl
        split at h
        · rename_i hc
          cases h
          rw [decL_eq hl]
          exact ft25 hK hT l hc
        · cases h
      · cases h
    · cases h
end
end Go.Am
namespace Go.Am
open Go.Proofs
section
variable {K : Nat} {gw : World} {s : St}
attribute [local simp] RS_cons' RS_nil RQ_nil RQ_cons' awanted xop zOf zrow aop ev T0 Slots.put Slots.set Slots.get awr WOk AV.may ofConst abinop aint isConst St.get_push St.get_put St.live AV.fit AV.cells AV.one fieldOf afieldAddr aload ofCells astore splice May eqres env_ti FinP ares aresL ares1 Fns.addP Fns.add
theorem key_shown : keyT [⟨true, [97], 0⟩, ⟨false, [], 12⟩] = [115, 49, 58, 97, 110, 50, 58, 49, 50] := by
  have h1 : Lib.itoa 1 = [49] := by kernel_rfl
  have h2 : Lib.itoa 2 = [50] := by kernel_rfl
  have h3 : Lib.itoa 12 = [49, 50] := by kernel_rfl
  simp [keyT, keyV, txtV, h1, h2, h3]
theorem ok_shown : okT [⟨true, [97], 0⟩, ⟨false, [], 12⟩] = true := by simp [okT, key_shown, i64ok, LIM]
theorem cmp_shown : cmpT [⟨true, [97], 0⟩, ⟨false, [], 12⟩] [⟨true, [97], 0⟩] = 1 := by decide
theorem ft10 (hK : 0 < K) (hT : Tens gw) : FT (env K gw) NoW 10 [] s (.bool true) s := by
  refine FT.pure (fn := Tryd.f10) (F12_ok hK hT) mixed Tryd.func10 (by kernel_rfl) (by rfl) rfl rfl (by simp) rfl fun μ w => ?_
  repeat' (first
    | refine WP.t ?_ | refine WP.k ?_ | refine WP.e ?_ | refine Qn ?_ | refine Qr ?_ | refine Qe ?_ | refine Bn ?_ | refine Br ?_ | refine Be ?_ | refine Bx (by decide) ?_
    | (refine WP.sr fun k hk => ?_; simp [F12, F11, F10, F9, F8, F7, F6, F5, F4, LIM, pOf, pCmpT, decL, decV, bareV, V.cs, i64ok, abuild, afill, placesOf, abuildSlice, chunks, List.range, List.range.loop, elemOfT, elemId, ti34, ti22, ti9, ti4, ti2, ti3, abuiltin, alenOk, alen, key_shown, ok_shown, cmp_shown, astrop, abound, asliceOk, aslice]; refine hk _ _ ?_; clear hk k) | (refine WP.r fun k hk => ?_; simp [F12, F11, F10, F9, F8, F7, F6, F5, F4, LIM, pOf, pCmpT, decL, decV, bareV, V.cs, i64ok, abuild, afill, placesOf, abuildSlice, chunks, List.range, List.range.loop, elemOfT, elemId, ti34, ti22, ti9, ti4, ti2, ti3, abuiltin, alenOk, alen, key_shown, ok_shown, cmp_shown, astrop, abound, asliceOk, aslice]; refine hk _ _ ?_; clear hk k)
    | (refine WP.sd _ rfl fun k hk => ?_; simp [F12, F11, F10, F9, F8, F7, F6, F5, F4, LIM, pOf, pCmpT, decL, decV, bareV, V.cs, i64ok, abuild, afill, placesOf, abuildSlice, chunks, List.range, List.range.loop, elemOfT, elemId, ti34, ti22, ti9, ti4, ti2, ti3, abuiltin, alenOk, alen, key_shown, ok_shown, cmp_shown, astrop, abound, asliceOk, aslice]; refine hk _ _ ?_; clear hk k) | (refine WP.d _ rfl fun k hk => ?_; simp [F12, F11, F10, F9, F8, F7, F6, F5, F4, LIM, pOf, pCmpT, decL, decV, bareV, V.cs, i64ok, abuild, afill, placesOf, abuildSlice, chunks, List.range, List.range.loop, elemOfT, elemId, ti34, ti22, ti9, ti4, ti2, ti3, abuiltin, alenOk, alen, key_shown, ok_shown, cmp_shown, astrop, abound, asliceOk, aslice]; refine hk _ _ ?_; clear hk k)
    | (refine WP.cc fun A B hA hB => ?_; simp [F12, F11, F10, F9, F8, F7, F6, F5, F4, LIM, pOf, pCmpT, decL, decV, bareV, V.cs, i64ok, abuild, afill, placesOf, abuildSlice, chunks, List.range, List.range.loop, elemOfT, elemId, ti34, ti22, ti9, ti4, ti2, ti3, abuiltin, alenOk, alen, key_shown, ok_shown, cmp_shown, astrop, abound, asliceOk, aslice, onB_t, onB_f]; first | (refine hA ?_; clear hA hB) | (refine hB ?_; clear hA hB) | (refine onB_if (fun h => hA ?_) (fun h => hB ?_) <;> clear hA hB))
    | refine WP.q ?_ | refine WP.b ?_)
  simp
def pShown : List AV → Option AV
  | [] => some (.bool true)
  | _ => none
def F13 : Fns := F12.addP 10 pShown
theorem F13_ok (hK : 0 < K) (hT : Tens gw) : FOk (env K gw) F13 := by
  refine (F12_ok hK hT).addP ?_
  intro xs s r h; unfold pShown at h; split at h <;> cases h; exact ft10 hK hT
/-- What the statement comes to. -/
def lawOrder (a b c : List V) : Bool :=
  let x := cmpT a b
  let y := cmpT b c
  let z := cmpT a c
  (cmpT b a == -x) && (decide (0 < x) || decide (0 < y) || decide (z ≤ 0)) && (decide (0 ≤ x) || decide (0 ≤ y) || decide (z < 0)) && ((x == 0) == (keyT a == keyT b)) && (cmpT a a == 0)
end
end Go.Am
