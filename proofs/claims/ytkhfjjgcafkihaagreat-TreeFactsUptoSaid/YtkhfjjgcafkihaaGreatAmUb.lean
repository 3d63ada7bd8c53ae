/- Part of the proof: abstract values over the given model of Go (U5, U6, U7). Conditions: none of its own; see the statement in the seat's Rows text. -/
import Derived.Test.YtkhfjjgcafkihaaGreatAmUa
set_option linter.unusedSimpArgs false
set_option linter.unusedVariables false
set_option linter.unusedSectionVars false
namespace Go.Am
open Go.Proofs
/-- A name, and what it stands for. -/
structure Pr where
  k : Str
  v : V
def Pr.cs (p : Pr) : List AV := [.str p.k, .bool p.v.b, .str p.v.s, .int .i64 p.v.n]
def cPr : Cel Pr where
  cs := Pr.cs
  un x := match x with
    | [.str k, .bool b, .str s, .int .i64 n] => some ⟨k, ⟨b, s, n⟩⟩
    | _ => none
  sz := 4
  un_cs _ := rfl
  cs_un x a h := by split at h <;> cases h; rfl
  len _ := rfl
  bl a n x hx := by
    simp [Pr.cs] at hx
    rcases hx with rfl | rfl | rfl | rfl <;> simp
theorem unL_Pr (l : List Pr) : unL cPr (l.map Pr.cs) = some l := unL_map cPr l
abbrev Envr := List Pr
/-- One name is behind another. -/
def gtS (a b : Str) : Bool := !Op.bytesLess a b && !a == b
def ixI : Option Nat → Int
  | some i => i
  | none => -1
theorem find_some {α : Type} {p : α → Bool} {l : List α} {i : Nat} (hi : i < l.length) (h : p l[i] = true) (hb : ∀ j (hj : j < l.length), j < i → p l[j] = false) : l.findIdx? p = some i :=
  List.findIdx?_eq_some_iff_getElem.2 ⟨hi, h, fun j hj => by simp [hb j (by omega) hj]⟩
theorem find_none {α : Type} {p : α → Bool} {l : List α} (hb : ∀ j (hj : j < l.length), p l[j] = false) : l.findIdx? p = none :=
  List.findIdx?_eq_none_iff.2 fun x hx => by
    obtain ⟨j, hj, rfl⟩ := List.getElem_of_mem hx
    exact hb j hj
section
variable {K : Nat} {gw : World} {s : St}
attribute [local simp] awanted xop zOf cz zrow aop ev T0 Slots.put Slots.set Slots.get awr WOk AV.may ofConst abinop aint isConst St.get_push St.get_put St.live AV.fit AV.cells AV.one fieldOf afieldAddr aload ofCells astore splice May eqres env_ti FinP FinZ FinW ares aresL ares1 Fns.addP Fns.add Fns.a0 Fns.a1 Fns.a2 Fns.a3 Fns.a4 abuiltin alenOk alen aindex elemOfT elemId abuildSlice afill chunks ard aappend isSS AV.isStr aminmax placesOf abuild afield aidx isStrD isStrDesc astrop aslice asliceOk abound arange anext aextract aunop aeq AV.ck avseq aveq aconv aconvert onB_t onB_f List.range_succ
theorem ft_IdxPr {F : Fns} (hF : FOk (env K gw) F) (g : FuncId) (cap : List AV) (p : Pr → Bool) (l : List Pr) (hl : l.length < LIM) (hp : ∀ x ∈ l, F g (.agg x.cs :: cap) s = some (.bool (p x), s, [])) :
    FT (env K gw) NoW 108 [.sl (l.map Pr.cs), .fn (.func g) [] cap] s (.int .i64 (ixI (l.findIdx? p))) s := by
  refine FT.pure (fn := Tryz.f108) hF mixed Tryz.func108 (by kernel_rfl) (by rfl) rfl rfl (by simp) rfl fun μ w => ?_
  repeat' (first
    | refine WP.t ?_ | refine WP.k ?_ | refine WP.e ?_ | refine Qn ?_ | refine Qr ?_ | refine Qe ?_ | refine Bn ?_ | refine Br ?_ | refine Be ?_ | refine Bx (by decide) ?_
    | (refine RS.nl ?_; refine hk _ _ ?_; clear hk k)
    | ((first | refine RS.st fun A B hA hB => ?_ | refine RQ.st fun A B hA hB => ?_); simp [onW_t, onW_t, onW_f, onV_s]; first | ((first | refine hA _ _ _ ?_ ?_ | refine hA _ _ _ ?_ (by first | exact .inl rfl | exact .inr (by decide)) ?_); (focus (simp [onW_t] <;> omega)); clear hA hB A B) | (refine hB ?_; clear hA hB A B) | (refine onV_if ?_ ?_; (focus (first | omega | (refine ⟨?_, ?_⟩ <;> omega))); simp only [onV_s]; (first | refine hA _ _ _ ?_ ?_ | refine hA _ _ _ ?_ (by first | exact .inl rfl | exact .inr (by decide)) ?_); (focus (simp [onW_t] <;> omega)); clear hA hB A B))
    | (refine RQ.nl ?_; refine hk _ _ ?_; clear hk k)
    | refine WP.sr fun k hk => ?_ | refine WP.r fun k hk => ?_
    | refine WP.sd _ rfl fun k hk => ?_ | refine WP.d _ rfl fun k hk => ?_
    | (refine WP.cc fun A B hA hB => ?_; simp [onW_t, onB_t, onB_f]; first | (refine hA ?_; clear hA hB A B) | (refine hB ?_; clear hA hB A B) | (refine onB_if (fun h => hA ?_) (fun h => hB ?_) <;> clear hA hB A B))
    | refine WP.q ?_ | refine WP.b ?_)
  refine WP_loop (fun n T s' => ∃ i : Nat, n + i = l.length ∧ s' = s ∧ T.get 0 = .sl (l.map Pr.cs) ∧ T.get 1 = .fn (.func g) [] cap ∧ T.get 7 = .int .i64 l.length ∧ T.get 8 = .int .i64 i ∧ ∀ j (hj : j < l.length), j < i → p l[j] = false) l.length ⟨0, by simp, rfl, by simp, by simp, by simp, by simp, fun j hj h => by omega⟩ ?_
  rintro n T s' ⟨i, hn, rfl, h0, h1, h7, h8, hb⟩
  by_cases hi : i < l.length
  · have hw : IntKind.i64.wrap ((i : Int) + 1) = (i : Int) + 1 := wrap64 (by omega) (by simp only [LIM] at hl; omega)
    have ha : l[i]? = some l[i] := List.getElem?_eq_getElem hi
    have hlt : ((i : Int) < (l.length : Int)) := by omega
    have hpi := hp l[i] (List.getElem_mem hi)
    generalize hx : l[i] = x at *
    cases hpx : p x with
    | true =>
      rw [hpx] at hpi
      have hf := find_some (p := p) hi (by rw [hx]; exact hpx) hb
      simp only [Pr.cs] at hpi
      repeat' (first
        | refine WP.t ?_ | refine WP.k ?_ | refine WP.e ?_ | refine Qn ?_ | refine Qr ?_ | refine Qe ?_ | refine Bn ?_ | refine Br ?_ | refine Be ?_ | refine Bx (by decide) ?_
        | (refine RS.nl ?_; refine hk _ _ ?_; clear hk k)
        | ((first | refine RS.st fun A B hA hB => ?_ | refine RQ.st fun A B hA hB => ?_); simp [h0, h1, h7, h8, hlt, hi, ha, hx, hw, hpi, Pr.cs, onW_t, onW_f, onV_s]; first | ((first | refine hA _ _ _ ?_ ?_ | refine hA _ _ _ ?_ (by first | exact .inl rfl | exact .inr (by decide)) ?_); (focus (simp [h0, h1, h7, h8, hlt, hi, ha, hx, hw, hpi, Pr.cs] <;> omega)); clear hA hB A B) | (refine hB ?_; clear hA hB A B) | (refine onV_if ?_ ?_; (focus (first | omega | (refine ⟨?_, ?_⟩ <;> omega))); simp only [onV_s]; (first | refine hA _ _ _ ?_ ?_ | refine hA _ _ _ ?_ (by first | exact .inl rfl | exact .inr (by decide)) ?_); (focus (simp [h0, h1, h7, h8, hlt, hi, ha, hx, hw, hpi, Pr.cs] <;> omega)); clear hA hB A B))
        | (refine RQ.nl ?_; refine hk _ _ ?_; clear hk k)
        | refine WP.sr fun k hk => ?_ | refine WP.r fun k hk => ?_
        | refine WP.sd _ rfl fun k hk => ?_ | refine WP.d _ rfl fun k hk => ?_
        | (refine WP.cc fun A B hA hB => ?_; simp [h0, h1, h7, h8, hlt, hi, ha, hx, hw, hpi, Pr.cs, onB_t, onB_f]; first | (refine hA ?_; clear hA hB A B) | (refine hB ?_; clear hA hB A B) | (refine onB_if (fun h => hA ?_) (fun h => hB ?_) <;> clear hA hB A B))
        | refine WP.q ?_ | refine WP.b ?_)
      simp [hf, ixI]
    | false =>
      rw [hpx] at hpi
      simp only [Pr.cs] at hpi
      repeat' (first
        | refine WP.t ?_ | refine WP.k ?_ | refine WP.e ?_ | refine Qn ?_ | refine Qr ?_ | refine Qe ?_ | refine Bn ?_ | refine Br ?_ | refine Be ?_ | refine Bx (by decide) ?_
        | (refine RS.nl ?_; refine hk _ _ ?_; clear hk k)
        | ((first | refine RS.st fun A B hA hB => ?_ | refine RQ.st fun A B hA hB => ?_); simp [h0, h1, h7, h8, hlt, hi, ha, hx, hw, hpi, Pr.cs, onW_t, onW_f, onV_s]; first | ((first | refine hA _ _ _ ?_ ?_ | refine hA _ _ _ ?_ (by first | exact .inl rfl | exact .inr (by decide)) ?_); (focus (simp [h0, h1, h7, h8, hlt, hi, ha, hx, hw, hpi, Pr.cs] <;> omega)); clear hA hB A B) | (refine hB ?_; clear hA hB A B) | (refine onV_if ?_ ?_; (focus (first | omega | (refine ⟨?_, ?_⟩ <;> omega))); simp only [onV_s]; (first | refine hA _ _ _ ?_ ?_ | refine hA _ _ _ ?_ (by first | exact .inl rfl | exact .inr (by decide)) ?_); (focus (simp [h0, h1, h7, h8, hlt, hi, ha, hx, hw, hpi, Pr.cs] <;> omega)); clear hA hB A B))
        | (refine RQ.nl ?_; refine hk _ _ ?_; clear hk k)
        | refine WP.sr fun k hk => ?_ | refine WP.r fun k hk => ?_
        | refine WP.sd _ rfl fun k hk => ?_ | refine WP.d _ rfl fun k hk => ?_
        | (refine WP.cc fun A B hA hB => ?_; simp [h0, h1, h7, h8, hlt, hi, ha, hx, hw, hpi, Pr.cs, onB_t, onB_f]; first | (refine hA ?_; clear hA hB A B) | (refine hB ?_; clear hA hB A B) | (refine onB_if (fun h => hA ?_) (fun h => hB ?_) <;> clear hA hB A B))
        | refine WP.q ?_ | refine WP.b ?_)
      refine ⟨n - 1, by omega, i + 1, by omega, rfl, by simp [h0], by simp [h1], by simp [h7], by simp, fun j hj hji => ?_⟩
      by_cases e : j = i
      · subst e; rw [hx]; exact hpx
      · exact hb j hj (by omega)
  · have hlt : ¬ ((i : Int) < (l.length : Int)) := by omega
    have hf := find_none (p := p) (l := l) fun j hj => hb j hj (by omega)
    repeat' (first
      | refine WP.t ?_ | refine WP.k ?_ | refine WP.e ?_ | refine Qn ?_ | refine Qr ?_ | refine Qe ?_ | refine Bn ?_ | refine Br ?_ | refine Be ?_ | refine Bx (by decide) ?_
      | (refine RS.nl ?_; refine hk _ _ ?_; clear hk k)
      | ((first | refine RS.st fun A B hA hB => ?_ | refine RQ.st fun A B hA hB => ?_); simp [h0, h1, h7, h8, hlt, onW_t, onW_f, onV_s]; first | ((first | refine hA _ _ _ ?_ ?_ | refine hA _ _ _ ?_ (by first | exact .inl rfl | exact .inr (by decide)) ?_); (focus (simp [h0, h1, h7, h8, hlt] <;> omega)); clear hA hB A B) | (refine hB ?_; clear hA hB A B) | (refine onV_if ?_ ?_; (focus (first | omega | (refine ⟨?_, ?_⟩ <;> omega))); simp only [onV_s]; (first | refine hA _ _ _ ?_ ?_ | refine hA _ _ _ ?_ (by first | exact .inl rfl | exact .inr (by decide)) ?_); (focus (simp [h0, h1, h7, h8, hlt] <;> omega)); clear hA hB A B))
      | (refine RQ.nl ?_; refine hk _ _ ?_; clear hk k)
      | refine WP.sr fun k hk => ?_ | refine WP.r fun k hk => ?_
      | refine WP.sd _ rfl fun k hk => ?_ | refine WP.d _ rfl fun k hk => ?_
      | (refine WP.cc fun A B hA hB => ?_; simp [h0, h1, h7, h8, hlt, onB_t, onB_f]; first | (refine hA ?_; clear hA hB A B) | (refine hB ?_; clear hA hB A B) | (refine onB_if (fun h => hA ?_) (fun h => hB ?_) <;> clear hA hB A B))
      | refine WP.q ?_ | refine WP.b ?_)
    simp [hf, ixI]
/-- The closures: a name is that; a name is behind that. -/
theorem ft_Eq1 (f : FuncId) (p : Pr) (nm : Str) (id : Nat) (hid : id < s.nx) (hs : s.get id = some (.var 9 [.str nm])) : FT (env K gw) NoW 117 [.agg p.cs, .ptr id 0] s (.bool (p.k == nm)) s := by
  refine FT.pure (fn := Tryz.f117) F0_ok mixed Tryz.func117 (by kernel_rfl) (by rfl) rfl rfl (by simp) rfl fun μ w => ?_
  have hne : ¬ id = s.nx := by omega
  repeat' (first
    | refine WP.t ?_ | refine WP.k ?_ | refine WP.e ?_ | refine Qn ?_ | refine Qr ?_ | refine Qe ?_ | refine Bn ?_ | refine Br ?_ | refine Be ?_ | refine Bx (by decide) ?_
    | (refine RS.nl ?_; refine hk _ _ ?_; clear hk k)
    | ((first | refine RS.st fun A B hA hB => ?_ | refine RQ.st fun A B hA hB => ?_); simp [hs, hid, hne, Pr.cs, onW_t, onW_f, onV_s]; first | ((first | refine hA _ _ _ ?_ ?_ | refine hA _ _ _ ?_ (by first | exact .inl rfl | exact .inr (by decide)) ?_); (focus (simp [hs, hid, hne, Pr.cs] <;> omega)); clear hA hB A B) | (refine hB ?_; clear hA hB A B) | (refine onV_if ?_ ?_; (focus (first | omega | (refine ⟨?_, ?_⟩ <;> omega))); simp only [onV_s]; (first | refine hA _ _ _ ?_ ?_ | refine hA _ _ _ ?_ (by first | exact .inl rfl | exact .inr (by decide)) ?_); (focus (simp [hs, hid, hne, Pr.cs] <;> omega)); clear hA hB A B))
    | (refine RQ.nl ?_; refine hk _ _ ?_; clear hk k)
    | refine WP.sr fun k hk => ?_ | refine WP.r fun k hk => ?_
    | refine WP.sd _ rfl fun k hk => ?_ | refine WP.d _ rfl fun k hk => ?_
    | (refine WP.cc fun A B hA hB => ?_; simp [hs, hid, hne, Pr.cs, onB_t, onB_f]; first | (refine hA ?_; clear hA hB A B) | (refine hB ?_; clear hA hB A B) | (refine onB_if (fun h => hA ?_) (fun h => hB ?_) <;> clear hA hB A B))
    | refine WP.q ?_ | refine WP.b ?_)
  simp
theorem ft_Eq2 (f : FuncId) (p : Pr) (nm : Str) (id : Nat) (hid : id < s.nx) (hs : s.get id = some (.var 9 [.str nm])) : FT (env K gw) NoW 107 [.agg p.cs, .ptr id 0] s (.bool (p.k == nm)) s := by
  refine FT.pure (fn := Tryz.f107) F0_ok mixed Tryz.func107 (by kernel_rfl) (by rfl) rfl rfl (by simp) rfl fun μ w => ?_
  have hne : ¬ id = s.nx := by omega
  repeat' (first
    | refine WP.t ?_ | refine WP.k ?_ | refine WP.e ?_ | refine Qn ?_ | refine Qr ?_ | refine Qe ?_ | refine Bn ?_ | refine Br ?_ | refine Be ?_ | refine Bx (by decide) ?_
    | (refine RS.nl ?_; refine hk _ _ ?_; clear hk k)
    | ((first | refine RS.st fun A B hA hB => ?_ | refine RQ.st fun A B hA hB => ?_); simp [hs, hid, hne, Pr.cs, onW_t, onW_f, onV_s]; first | ((first | refine hA _ _ _ ?_ ?_ | refine hA _ _ _ ?_ (by first | exact .inl rfl | exact .inr (by decide)) ?_); (focus (simp [hs, hid, hne, Pr.cs] <;> omega)); clear hA hB A B) | (refine hB ?_; clear hA hB A B) | (refine onV_if ?_ ?_; (focus (first | omega | (refine ⟨?_, ?_⟩ <;> omega))); simp only [onV_s]; (first | refine hA _ _ _ ?_ ?_ | refine hA _ _ _ ?_ (by first | exact .inl rfl | exact .inr (by decide)) ?_); (focus (simp [hs, hid, hne, Pr.cs] <;> omega)); clear hA hB A B))
    | (refine RQ.nl ?_; refine hk _ _ ?_; clear hk k)
    | refine WP.sr fun k hk => ?_ | refine WP.r fun k hk => ?_
    | refine WP.sd _ rfl fun k hk => ?_ | refine WP.d _ rfl fun k hk => ?_
    | (refine WP.cc fun A B hA hB => ?_; simp [hs, hid, hne, Pr.cs, onB_t, onB_f]; first | (refine hA ?_; clear hA hB A B) | (refine hB ?_; clear hA hB A B) | (refine onB_if (fun h => hA ?_) (fun h => hB ?_) <;> clear hA hB A B))
    | refine WP.q ?_ | refine WP.b ?_)
  simp
theorem ft_Gt (f : FuncId) (p : Pr) (nm : Str) (id : Nat) (hid : id < s.nx) (hs : s.get id = some (.var 9 [.str nm])) : FT (env K gw) NoW 109 [.agg p.cs, .ptr id 0] s (.bool (gtS p.k nm)) s := by
  refine FT.pure (fn := Tryz.f109) F0_ok mixed Tryz.func109 (by kernel_rfl) (by rfl) rfl rfl (by simp) rfl fun μ w => ?_
  have hne : ¬ id = s.nx := by omega
  repeat' (first
    | refine WP.t ?_ | refine WP.k ?_ | refine WP.e ?_ | refine Qn ?_ | refine Qr ?_ | refine Qe ?_ | refine Bn ?_ | refine Br ?_ | refine Be ?_ | refine Bx (by decide) ?_
    | (refine RS.nl ?_; refine hk _ _ ?_; clear hk k)
    | ((first | refine RS.st fun A B hA hB => ?_ | refine RQ.st fun A B hA hB => ?_); simp [hs, hid, hne, Pr.cs, onW_t, onW_f, onV_s]; first | ((first | refine hA _ _ _ ?_ ?_ | refine hA _ _ _ ?_ (by first | exact .inl rfl | exact .inr (by decide)) ?_); (focus (simp [hs, hid, hne, Pr.cs] <;> omega)); clear hA hB A B) | (refine hB ?_; clear hA hB A B) | (refine onV_if ?_ ?_; (focus (first | omega | (refine ⟨?_, ?_⟩ <;> omega))); simp only [onV_s]; (first | refine hA _ _ _ ?_ ?_ | refine hA _ _ _ ?_ (by first | exact .inl rfl | exact .inr (by decide)) ?_); (focus (simp [hs, hid, hne, Pr.cs] <;> omega)); clear hA hB A B))
    | (refine RQ.nl ?_; refine hk _ _ ?_; clear hk k)
    | refine WP.sr fun k hk => ?_ | refine WP.r fun k hk => ?_
    | refine WP.sd _ rfl fun k hk => ?_ | refine WP.d _ rfl fun k hk => ?_
    | (refine WP.cc fun A B hA hB => ?_; simp [hs, hid, hne, Pr.cs, onB_t, onB_f]; first | (refine hA ?_; clear hA hB A B) | (refine hB ?_; clear hA hB A B) | (refine onB_if (fun h => hA ?_) (fun h => hB ?_) <;> clear hA hB A B))
    | refine WP.q ?_ | refine WP.b ?_)
  simp [gtS]
def gClo (f : Str → Str → Bool) (xs : List AV) (s : St) : Option (AV × St × List Nat) :=
  match xs with
  | [.agg c, .ptr id 0] => if id < s.nx then (match cPr.un c, s.get id with
    | some p, some (.var 9 [.str nm]) => some (.bool (f p.k nm), s, [])
    | _, _ => none) else none
  | _ => none
def eqS (a b : Str) : Bool := a == b
theorem gClo_ok {E : Env} {f : FuncId} {g : Str → Str → Bool} (h : ∀ (p : Pr) (nm : Str) (id : Nat) (s : St), id < s.nx → s.get id = some (.var 9 [.str nm]) → FT E NoW f [.agg p.cs, .ptr id 0] s (.bool (g p.k nm)) s)
    (xs : List AV) (s : St) (r : AV) (s' : St) (l : List Nat) (he : gClo g xs s = some (r, s', l)) : FT E (fun id => id ∈ l) f xs s r s' := by
  unfold gClo at he
  split at he
  · split at he
    · rename_i hid
      split at he
      · rename_i hu hs
        cases he
        rw [cPr.cs_un _ _ hu]
        have : (fun id => id ∈ ([] : List Nat)) = NoW := by funext id; simp
        rw [this]
        exact h _ _ _ _ hid hs
      · cases he
    · cases he
  · cases he
def F5 : Fns := ((F4c.add 117 (gClo eqS)).add 107 (gClo eqS)).add 109 (gClo gtS)
theorem F5_ok : FOk (env K gw) F5 :=
  ((F4c_ok.add (gClo_ok fun p nm id s hid hs => ft_Eq1 0 p nm id hid hs)).add (gClo_ok fun p nm id s hid hs => ft_Eq2 0 p nm id hid hs)).add (gClo_ok fun p nm id s hid hs => ft_Gt 0 p nm id hid hs)
/-- The first place of a name, or behind it. -/
def gIdx (xs : List AV) (s : St) : Option (AV × St × List Nat) :=
  match xs with
  | [.sl c, .fn (.func g) [] [.ptr id 0]] => if id < s.nx then (match unL cPr c, s.get id with
    | some l, some (.var 9 [.str nm]) => if l.length < LIM then
        (if g = 109 then some (.int .i64 (ixI (l.findIdx? fun p => gtS p.k nm)), s, []) else if g = 107 ∨ g = 117 then some (.int .i64 (ixI (l.findIdx? fun p => eqS p.k nm)), s, []) else none) else none
    | _, _ => none) else none
  | _ => none
theorem gIdx_ok (xs : List AV) (s : St) (r : AV) (s' : St) (l : List Nat) (he : gIdx xs s = some (r, s', l)) : FT (env K gw) (fun id => id ∈ l) 108 xs s r s' := by
  have hN : (fun id => id ∈ ([] : List Nat)) = NoW := by funext id; simp
  unfold gIdx at he
  split at he
  · rename_i c g id
    split at he
    · rename_i hid
      split at he
      · rename_i l nm hu hs
        have hu' := unL_eq cPr _ _ hu
        subst hu'
        split at he
        · rename_i hl
          split at he
          · rename_i hg
            subst hg
            cases he
            rw [hN]
            exact ft_IdxPr F5_ok _ _ _ l hl fun x _ => by simp [F5, Fns.add, gClo, hid, hs, show cPr.un x.cs = some x from rfl]
          · split at he
            · rename_i hg
              cases he
              rw [hN]
              rcases hg with rfl | rfl
              · exact ft_IdxPr F5_ok _ _ _ l hl fun x _ => by simp [F5, Fns.add, gClo, hid, hs, show cPr.un x.cs = some x from rfl]
              · exact ft_IdxPr F5_ok _ _ _ l hl fun x _ => by simp [F5, Fns.add, gClo, hid, hs, show cPr.un x.cs = some x from rfl]
            · cases he
        · cases he
      · cases he
    · cases he
  · cases he
def F6 : Fns := F5.add 108 gIdx
theorem F6_ok : FOk (env K gw) F6 := F5_ok.add gIdx_ok
/-- What a name stands for. -/
def getE (e : Envr) (nm : Str) : Option V := (e.find? fun p => p.k == nm).map (·.v)
def tupV : Option V → AV
  | some v => .tup [.agg v.cs, .bool true]
  | none => .tup [.agg (V.mk false [] 0).cs, .bool false]
theorem get_some {e : Envr} {nm : Str} {i : Nat} (h : e.findIdx? (fun p => eqS p.k nm) = some i) : ∃ hi : i < e.length, getE e nm = some e[i].v := by
  obtain ⟨hi, h1, h2⟩ := List.findIdx?_eq_some_iff_getElem.1 h
  refine ⟨hi, ?_⟩
  unfold getE
  have : e.find? (fun p => p.k == nm) = some e[i] := List.find?_eq_some_iff_getElem.2 ⟨h1, i, hi, rfl, fun j hj => by simpa [eqS] using h2 j hj⟩
  rw [this]
  rfl
theorem get_none {e : Envr} {nm : Str} (h : e.findIdx? (fun p => eqS p.k nm) = none) : getE e nm = none := by
  unfold getE
  rw [List.find?_eq_none.2 fun x hx => by simpa [eqS] using List.findIdx?_eq_none_iff.1 h x hx]
  rfl
theorem ft_Get (e : Envr) (nm : Str) (hl : e.length < LIM) : FT (env K gw) NoW 103 [.sl (e.map Pr.cs), .str nm] s (tupV (getE e nm)) s := by
  have hu : unL cPr (e.map Pr.cs) = some e := unL_Pr e
  refine FT.pure (fn := Tryz.f103) F6_ok mixed Tryz.func103 (by kernel_rfl) (by rfl) rfl rfl (by simp) rfl fun μ w => ?_
  cases hf : e.findIdx? (fun p => eqS p.k nm) with
  | none =>
    rw [get_none hf]
    repeat' (first
      | refine WP.t ?_ | refine WP.k ?_ | refine WP.e ?_ | refine Qn ?_ | refine Qr ?_ | refine Qe ?_ | refine Bn ?_ | refine Br ?_ | refine Be ?_ | refine Bx (by decide) ?_
      | (refine RS.nl ?_; refine hk _ _ ?_; clear hk k)
      | ((first | refine RS.st fun A B hA hB => ?_ | refine RQ.st fun A B hA hB => ?_); simp [F6, gIdx, hu, hl, hf, ixI, onW_t, onW_f, onV_s]; first | ((first | refine hA _ _ _ ?_ ?_ | refine hA _ _ _ ?_ (by first | exact .inl rfl | exact .inr (by decide)) ?_); (focus (simp [F6, gIdx, hu, hl, hf, ixI] <;> omega)); clear hA hB A B) | (refine hB ?_; clear hA hB A B) | (refine onV_if ?_ ?_; (focus (first | omega | (refine ⟨?_, ?_⟩ <;> omega))); simp only [onV_s]; (first | refine hA _ _ _ ?_ ?_ | refine hA _ _ _ ?_ (by first | exact .inl rfl | exact .inr (by decide)) ?_); (focus (simp [F6, gIdx, hu, hl, hf, ixI] <;> omega)); clear hA hB A B))
      | (refine RQ.nl ?_; refine hk _ _ ?_; clear hk k)
      | refine WP.sr fun k hk => ?_ | refine WP.r fun k hk => ?_
      | refine WP.sd _ rfl fun k hk => ?_ | refine WP.d _ rfl fun k hk => ?_
      | (refine WP.cc fun A B hA hB => ?_; simp [F6, gIdx, hu, hl, hf, ixI, onB_t, onB_f]; first | (refine hA ?_; clear hA hB A B) | (refine hB ?_; clear hA hB A B) | (refine onB_if (fun h => hA ?_) (fun h => hB ?_) <;> clear hA hB A B))
      | refine WP.q ?_ | refine WP.b ?_)
    simp [tupV, V.cs]
  | some i =>
    obtain ⟨hi, hg⟩ := get_some hf
    rw [hg]
    have hi1 : ¬ ((i : Int) < 0) := by omega
    have ha : e[i]? = some e[i] := List.getElem?_eq_getElem hi
    repeat' (first
      | refine WP.t ?_ | refine WP.k ?_ | refine WP.e ?_ | refine Qn ?_ | refine Qr ?_ | refine Qe ?_ | refine Bn ?_ | refine Br ?_ | refine Be ?_ | refine Bx (by decide) ?_
      | (refine RS.nl ?_; refine hk _ _ ?_; clear hk k)
      | ((first | refine RS.st fun A B hA hB => ?_ | refine RQ.st fun A B hA hB => ?_); simp [F6, gIdx, hu, hl, hf, ixI, hi1, ha, hi, Pr.cs, onW_t, onW_f, onV_s]; first | ((first | refine hA _ _ _ ?_ ?_ | refine hA _ _ _ ?_ (by first | exact .inl rfl | exact .inr (by decide)) ?_); (focus (simp [F6, gIdx, hu, hl, hf, ixI, hi1, ha, hi, Pr.cs] <;> omega)); clear hA hB A B) | (refine hB ?_; clear hA hB A B) | (refine onV_if ?_ ?_; (focus (first | omega | (refine ⟨?_, ?_⟩ <;> omega))); simp only [onV_s]; (first | refine hA _ _ _ ?_ ?_ | refine hA _ _ _ ?_ (by first | exact .inl rfl | exact .inr (by decide)) ?_); (focus (simp [F6, gIdx, hu, hl, hf, ixI, hi1, ha, hi, Pr.cs] <;> omega)); clear hA hB A B))
      | (refine RQ.nl ?_; refine hk _ _ ?_; clear hk k)
      | refine WP.sr fun k hk => ?_ | refine WP.r fun k hk => ?_
      | refine WP.sd _ rfl fun k hk => ?_ | refine WP.d _ rfl fun k hk => ?_
      | (refine WP.cc fun A B hA hB => ?_; simp [F6, gIdx, hu, hl, hf, ixI, hi1, ha, hi, Pr.cs, onB_t, onB_f]; first | (refine hA ?_; clear hA hB A B) | (refine hB ?_; clear hA hB A B) | (refine onB_if (fun h => hA ?_) (fun h => hB ?_) <;> clear hA hB A B))
      | refine WP.q ?_ | refine WP.b ?_)
    simp [tupV, V.cs]
end
end Go.Am
namespace Go.Am
open Go.Proofs
/-- The state behind slices.Clone. -/
def rowE (e : Envr) : AObj := .row 4 (true, 165) (e.map Pr.cs)
def stC (s : St) (e : Envr) : St := ((s.push (rowE [])).drop s.nx).push (rowE e)
theorem stC_nx (s : St) (e : Envr) : (stC s e).nx = s.nx + 2 := rfl
theorem stC_lo {s : St} {e : Envr} {id : Nat} (h : id < s.nx) : (stC s e).get id = s.get id := by
  unfold stC
  rw [St.get_push, if_neg (by simp; omega), St.get_drop, if_neg (by omega), St.get_push, if_neg (by omega)]
theorem stC_get (s : St) (e : Envr) : (stC s e).get (s.nx + 1) = some (rowE e) := by
  unfold stC
  rw [St.get_push, if_pos (by simp)]
theorem stC_mid (s : St) (e : Envr) : (stC s e).get s.nx = none := by
  unfold stC
  rw [St.get_push, if_neg (by simp), St.get_drop, if_pos rfl]
theorem belowE (n : Nat) (e : Envr) : OBelow n (rowE e) := by
  unfold rowE
  rw [obelow_row]
  intro c hc x hx
  obtain ⟨p, _, rfl⟩ := List.mem_map.1 hc
  exact cPr.bl p n x hx
section
variable {K : Nat} {gw : World} {s : St}
attribute [local simp] awanted xop zOf cz zrow aop ev T0 Slots.put Slots.set Slots.get awr WOk AV.may ofConst abinop aint isConst St.get_push St.get_put St.live AV.fit AV.cells AV.one fieldOf afieldAddr aload ofCells astore splice May eqres env_ti FinP FinZ FinW ares aresL ares1 Fns.addP Fns.add Fns.a0 Fns.a1 Fns.a2 Fns.a3 Fns.a4 abuiltin alenOk alen aindex elemOfT elemId abuildSlice afill chunks ard aappend isSS AV.isStr aminmax placesOf abuild afield aidx isStrD isStrDesc astrop aslice asliceOk abound arange anext aextract aunop aeq AV.ck avseq aveq aconv aconvert onB_t onB_f List.range_succ
theorem finC {rs : Array ResultVar} {e : Exit} {T : Slots} {D : Envr} (he : e = .normal ∨ e = .ret) (hr : ares (env K gw) T (stC s D) rs = some (.ls (s.nx + 1) 0 D.length)) :
    FinW (env K gw) rs NoW s (.ls (s.nx + 1) 0 D.length) (stC s D) e T (stC s D) := by
  refine ⟨he, hr, by rw [stC_nx]; simp, by rw [stC_nx]; omega, Nat.le_refl _, fun _ => ⟨fun _ _ => rfl, fun id hid h o ho => ?_⟩⟩
  rcases h with h | h
  · exact h.elim
  · rw [stC_nx] at hid
    by_cases e1 : id = s.nx
    · subst e1
      rw [stC_mid] at ho
      cases ho
    · obtain rfl : id = s.nx + 1 := by omega
      rw [stC_get] at ho
      cases ho
      exact belowE _ _
set_option maxRecDepth 20000 in
theorem ft_Clone (D : Envr) (hl : D.length < 268435456) :
    FT (env K gw) NoW 106 [.sl (D.map Pr.cs)] s (.ls (s.nx + 1) 0 D.length) (stC s D) := by
  refine FT.ownC (fn := Tryz.f106) Tryz.func106 (by kernel_rfl) (by rfl) rfl rfl (by simp) fun μ w => ?_
  have h36 := ti126
  refine CT.seq (CT.region (OT.step (i := 0) (rest := []) rfl rfl rfl (Step1.val (r := .nsl) (s' := s) rfl trivial) (OT.nil ?_)))
  refine CT.seq (CT.seq (CT.region (OT.step (i := 0) (rest := [1]) rfl rfl rfl (Step1.val (r := .sl (D.map Pr.cs)) (s' := s) rfl trivial) (OT.nilq (y := ⟨1, 24, false, [.slice none 0 0], .slice 165, false, false⟩) (e := 165) (xs := D.map Pr.cs) rfl rfl rfl rfl (by simp only [env]; exact h36) rfl rfl fun b hb => OT.nil ?_))))
  cases b with
  | true =>
    have hD : D = [] := by
      cases D with
      | nil => rfl
      | cons x D => exact absurd (hb (by simp)) (by simp)
    subst hD
    refine CT.cond (t := true) rfl ?_
    refine CT.seq (CT.region (OT.step (i := 0) (rest := []) rfl rfl rfl (Step1.val (r := .nsl) (s' := s) rfl trivial) (OT.nil ?_)))
    refine CT.nlrow (s2 := stC s []) 2 (s.nx + 1) rfl (by rw [stC_nx]; omega) (fun id hid => stC_lo hid) (by rw [stC_nx]; omega) ?_
    exact CT.ret (finC (.inr rfl) rfl)
  | false =>
    refine CT.cond (t := false) rfl (CT.skip ?_)
    refine WP_sound (F0_ok) mixed (Nat.le_refl _) _ _ _ s (by rfl) ?_
    have hone : ((D.map Pr.cs).all fun y => y.length == 4 && y.all AV.one) = true := by
      simp [Pr.cs, AV.one]
    have hby : D.length * 48 ≤ 140737488355328 := by omega
    repeat' (first
      | refine WP.t ?_ | refine WP.k ?_ | refine WP.e ?_ | refine Qn ?_ | refine Qr ?_ | refine Qe ?_ | refine Bn ?_ | refine Br ?_ | refine Be ?_ | refine Bx (by decide) ?_
      | (refine RS.nl ?_; refine hk _ _ ?_; clear hk k)
      | ((first | refine RS.st fun A B hA hB => ?_ | refine RQ.st fun A B hA hB => ?_); simp [hone, hby, onW_t, onW_f, onV_s]; first | ((first | refine hA _ _ _ ?_ ?_ | refine hA _ _ _ ?_ (by first | exact .inl rfl | exact .inr (by decide)) ?_); (focus (simp [hone, hby] <;> omega)); clear hA hB A B) | (refine hB ?_; clear hA hB A B) | (refine onV_if ?_ ?_; (focus (first | omega | (refine ⟨?_, ?_⟩ <;> omega))); simp only [onV_s]; (first | refine hA _ _ _ ?_ ?_ | refine hA _ _ _ ?_ (by first | exact .inl rfl | exact .inr (by decide)) ?_); (focus (simp [hone, hby] <;> omega)); clear hA hB A B))
      | (refine RQ.nl ?_; refine hk _ _ ?_; clear hk k)
      | refine WP.sr fun k hk => ?_ | refine WP.r fun k hk => ?_
      | refine WP.sd _ rfl fun k hk => ?_ | refine WP.d _ rfl fun k hk => ?_
      | (refine WP.cc fun A B hA hB => ?_; simp [hone, hby, onB_t, onB_f]; first | (refine hA ?_; clear hA hB A B) | (refine hB ?_; clear hA hB A B) | (refine onB_if (fun h => hA ?_) (fun h => hB ?_) <;> clear hA hB A B))
      | refine WP.q ?_ | refine WP.b ?_)
    exact finC (.inr rfl) rfl
/-! ### slices.Insert -/
def insR (e : Envr) (i : Nat) (p : Pr) : Envr := e.take i ++ p :: e.drop i
def gOvl (xs : List AV) (s : St) : Option (AV × St × List Nat) :=
  match xs with
  | [.sl ((_ :: _) :: _), .ls id _ _] => match s.get id with
    | some (.row _ (true, _) _) => some (.bool false, s, [])
    | _ => none
  | _ => none
set_option maxRecDepth 20000 in
theorem gOvl_ok (xs : List AV) (s : St) (r : AV) (s' : St) (l : List Nat) (h : gOvl xs s = some (r, s', l)) : FX (env K gw) 120 xs s r ∧ s' = s := by
  unfold gOvl at h
  split at h
  · split at h
    · rename_i hs
      cases h
      exact ⟨fx_overlaps (fn := Tryz.f120) (tS := 125) (tR := 4) (e := 165) Tryz.func120 (by kernel_rfl) (by kernel_rfl) (by kernel_rfl) (by kernel_rfl) (by simp only [env]; exact ti125) rfl (by simp only [env]; exact ti165) hs, rfl⟩
    · cases h
  · cases h
def F7 : Fns := F6.add 120 gOvl
theorem F7_ok : FOk (env K gw) F7 := F6_ok.addXs gOvl_ok
theorem finI {rs : Array ResultVar} {e : Exit} {T : Slots} {s1 : St} {id rd m : Nat} {k : RK} {l : Envr} {x : AV} (he : e = .normal ∨ e = .ret) (hn : s1.get id = none) (hr : ares (env K gw) T s1 rs = some x) (hx : x = .ls rd 0 m)
    (hg : s1.get rd = some (.row 4 k (l.map Pr.cs))) (hrd : s.nx ≤ rd) (hm : m = l.length) : FinZ' (env K gw) rs s id (.sl (l.map Pr.cs)) e T s1 := by
  subst hx
  exact ⟨he, hn, _, hr, frz_sl cPr hg hrd hm⟩
set_option maxRecDepth 20000 in
set_option maxHeartbeats 4000000 in
theorem ft_InsEnd (e : Envr) (p : Pr) (hl : e.length < 268435456) {id : Nat} (hid : id < s.nx) (hs : s.get id = some (rowE e)) :
    FT (env K gw) (fun j => j ∈ [id]) 110 [.ls id 0 e.length, .int .i64 e.length, .sl [p.cs]] s (.sl ((insR e e.length p).map Pr.cs)) (s.drop id) := by
  have hlen : (e.map Pr.cs).length = e.length := by simp
  have hF := FT.take (E := env K gw) (f := 110) (fn := Tryz.f110) (args := [.int .i64 e.length, .sl [p.cs]]) (s := s) (r := .sl ((insR e e.length p).map Pr.cs)) (nt := 95) Tryz.func110 (by kernel_rfl) (by rfl) rfl rfl (by simp) hid hs
    (below_sl.2 fun c hc x hx => by
      obtain ⟨p, _, rfl⟩ := List.mem_map.1 hc
      exact cPr.bl p _ x hx)
  rw [hlen] at hF
  refine hF fun μ w => ?_
  refine WP_sound F7_ok mixed (Nat.le_refl _) _ _ _ _ (by rfl) ?_
  have hone : ((e.map Pr.cs).all fun y => y.length == 4 && y.all AV.one) = true := by
    simp [Pr.cs, AV.one]
  have hby : (e.length + 1) * 48 ≤ 140737488355328 := by omega
  obtain ⟨pk, ⟨pb, ps, pn⟩⟩ := p
  have hne : ¬ id = s.nx := by omega
  repeat' (first
    | refine WP.t ?_ | refine WP.k ?_ | refine WP.e ?_ | refine Qn ?_ | refine Qr ?_ | refine Qe ?_ | refine Bn ?_ | refine Br ?_ | refine Be ?_ | refine Bx (by decide) ?_
    | (refine RS.nl ?_; refine hk _ _ ?_; clear hk k)
    | ((first | refine RS.st fun A B hA hB => ?_ | refine RQ.st fun A B hA hB => ?_); simp [St.mv, St.get_drop, hby, Pr.cs, onW_t, onW_f, onV_s]; first | ((first | refine hA _ _ _ ?_ ?_ | refine hA _ _ _ ?_ (by first | exact .inl rfl | exact .inr (by decide)) ?_); (focus (simp [St.mv, St.get_drop, hby, Pr.cs] <;> omega)); clear hA hB A B) | (refine hB ?_; clear hA hB A B) | (refine onV_if ?_ ?_; (focus (first | omega | (refine ⟨?_, ?_⟩ <;> omega))); simp only [onV_s]; (first | refine hA _ _ _ ?_ ?_ | refine hA _ _ _ ?_ (by first | exact .inl rfl | exact .inr (by decide)) ?_); (focus (simp [St.mv, St.get_drop, hby, Pr.cs] <;> omega)); clear hA hB A B))
    | (refine RQ.nl ?_; refine hk _ _ ?_; clear hk k)
    | refine WP.sr fun k hk => ?_ | refine WP.r fun k hk => ?_
    | refine WP.sd _ rfl fun k hk => ?_ | refine WP.d _ rfl fun k hk => ?_
    | (refine WP.cc fun A B hA hB => ?_; simp [St.mv, St.get_drop, hby, Pr.cs, onB_t, onB_f]; first | (refine hA ?_; clear hA hB A B) | (refine hB ?_; clear hA hB A B) | (refine onB_if (fun h => hA ?_) (fun h => hB ?_) <;> clear hA hB A B))
    | refine WP.q ?_ | refine WP.b ?_)
  refine finI (k := (true, 165)) (l := insR e e.length _) (.inr rfl) ?_ rfl rfl ?_ (Nat.le_succ _) (by simp [insR])
  · simp [St.get_push, St.get_drop, hne]; omega
  · simp [St.get_push, St.get_drop, insR, Pr.cs]
theorem junk_all (X : List (List AV)) (hX : ∀ x ∈ X, x.length = 4 ∧ x.all AV.one = true) (i n : Nat) (hn : X.length = n) (hi : i < n) {s2 : St} {id : Nat} {ty : TypeId} (hg : s2.get id = some (.row 4 (true, ty) (X ++ [[.junk, .junk, .junk, .junk]]))) :
    acopy s2 (.ls id (i + 1) (n - i)) (List.take (n + 1 - i) (List.drop i (X ++ [[.junk, .junk, .junk, .junk]]))) 4 = some (n - i, s2.put id (.row 4 (true, ty) (X.take (i + 1) ++ X.drop i))) := by
  have h1 : List.take (n + 1 - i) (List.drop i (X ++ [[AV.junk, .junk, .junk, .junk]])) = X.drop i ++ [[.junk, .junk, .junk, .junk]] := by
    rw [List.drop_append_of_le_length (by omega), List.take_of_length_le (by simp; omega)]
  have h2 : (X.drop i ++ [[AV.junk, .junk, .junk, .junk]]).length = n - i + 1 := by simp; omega
  have h3 : min (n - i + 1) (n - i) = n - i := by omega
  have h4 : (X.drop i ++ [[AV.junk, .junk, .junk, .junk]]).take (n - i) = X.drop i := by
    rw [List.take_append_of_le_length (by simp; omega), List.take_of_length_le (by simp; omega)]
  unfold acopy
  simp only [hg]
  rw [h1, h2, h3, h4, if_pos]
  · simp only [Option.some.injEq, Prod.mk.injEq, true_and]
    congr 2
    unfold splice
    have : i + 1 + (X.drop i).length = n + 1 := by rw [List.length_drop]; omega
    have hd : (X ++ [[AV.junk, .junk, .junk, .junk]]).drop (n + 1) = [] := List.drop_eq_nil_of_le (by simp [hn])
    rw [this, List.take_append_of_le_length (by omega), hd]
    simp
  · refine ⟨trivial, by simp; omega, ?_⟩
    rw [Bool.or_eq_true]
    refine .inr ?_
    rw [Bool.and_eq_true]
    refine ⟨List.all_eq_true.2 fun y hy => ?_, List.all_eq_true.2 fun y hy => (hX y (List.mem_of_mem_drop hy)).2⟩
    rcases List.mem_append.1 hy with hy | hy
    · simpa using (hX y (List.mem_of_mem_drop hy)).1
    · rw [List.mem_singleton] at hy; subst hy; rfl
theorem put1_all (X : List (List AV)) (z : List AV) (hz : z.length = 4 ∧ z.all AV.one = true) (i : Nat) (hi : i < X.length) {s2 : St} {id : Nat} {ty : TypeId} (hg : s2.get id = some (.row 4 (true, ty) X)) :
    acopy s2 (.ls id i (X.length - i)) [z] 4 = some (1, s2.put id (.row 4 (true, ty) (X.take i ++ z :: X.drop (i + 1)))) := by
  have h3 : min 1 (X.length - i) = 1 := by omega
  unfold acopy
  simp only [hg, List.length_singleton, h3]
  rw [if_pos]
  · simp [splice]
  · refine ⟨trivial, by omega, ?_⟩
    simp [hz.1, hz.2]
theorem putn_all (X Y : List (List AV)) (hY : ∀ x ∈ Y, x.length = 4 ∧ x.all AV.one = true) (i : Nat) (hi : i + Y.length = X.length) {s2 : St} {id : Nat} {ty : TypeId} (hg : s2.get id = some (.row 4 (true, ty) X)) :
    acopy s2 (.ls id i Y.length) Y 4 = some (Y.length, s2.put id (.row 4 (true, ty) (X.take i ++ Y))) := by
  have h3 : min Y.length Y.length = Y.length := by omega
  unfold acopy
  simp only [hg, h3]
  rw [if_pos]
  · simp only [Option.some.injEq, Prod.mk.injEq, true_and]
    congr 2
    unfold splice
    rw [List.take_length, List.drop_eq_nil_of_le (by omega)]
    simp
  · refine ⟨trivial, by omega, ?_⟩
    rw [Bool.or_eq_true]
    refine .inl (List.all_eq_true.2 fun y hy => ?_)
    simp [(hY y hy).1, (hY y hy).2]
set_option maxRecDepth 20000 in
set_option maxHeartbeats 4000000 in
theorem ft_InsMid (e : Envr) (p : Pr) (i : Nat) (hi : i < e.length) (hl : e.length < 268435456) {id : Nat} (hid : id < s.nx) (hs : s.get id = some (rowE e)) :
    FT (env K gw) (fun j => j ∈ [id]) 110 [.ls id 0 e.length, .int .i64 i, .sl [p.cs]] s (.sl ((insR e i p).map Pr.cs)) (s.drop id) := by
  have hlen : (e.map Pr.cs).length = e.length := by simp
  have hF := FT.take (E := env K gw) (f := 110) (fn := Tryz.f110) (args := [.int .i64 i, .sl [p.cs]]) (s := s) (r := .sl ((insR e i p).map Pr.cs)) (nt := 95) Tryz.func110 (by kernel_rfl) (by rfl) rfl rfl (by simp) hid hs
    (below_sl.2 fun c hc x hx => by
      obtain ⟨p, _, rfl⟩ := List.mem_map.1 hc
      exact cPr.bl p _ x hx)
  rw [hlen] at hF
  refine hF fun μ w => ?_
  clear hF
  have hone : ((e.map Pr.cs).all fun y => y.length == 4 && y.all AV.one) = true := by
    simp [Pr.cs, AV.one]
  have hby : (e.length + 1) * 48 ≤ 140737488355328 := by omega
  obtain ⟨pk, ⟨pb, ps, pn⟩⟩ := p
  have hne : ¬ id = s.nx := by omega
  have hi1 : ((i : Int) ≤ (e.length : Int)) := by omega
  have hi2 : ((i : Int) == (e.length : Int)) = false := beq_eq_false_iff_ne.2 (by omega)
  have hi3 : i ≤ e.length := by omega
  have hXs : ∀ x ∈ e.map Pr.cs, x.length = 4 ∧ x.all AV.one = true := fun x hx => by
    obtain ⟨p, _, rfl⟩ := List.mem_map.1 hx
    exact ⟨rfl, rfl⟩
  have hwn : IntKind.i64.wrap ((e.length : Int) + 1) = (e.length : Int) + 1 := wrap64 (by omega) (by omega)
  have hge : (s.mv id (rowE e)).get s.nx = some (rowE e) := by simp [St.mv, St.get_push]
  simp only [rowE] at hge
  refine CT.wpSeq (F := F7) ?_ ?_ ?_ ?_ ?_
  · exact F7_ok
  · exact mixed
  · exact Nat.le_refl _
  · rfl
  repeat' (first
    | refine WP.t ?_ | refine WP.k ?_ | refine WP.e ?_ | refine Qn ?_ | refine Qr ?_ | refine Qe ?_ | refine Bn ?_ | refine Br ?_ | refine Be ?_ | refine Bx (by decide) ?_
    | (refine RS.nl ?_; refine hk _ _ ?_; clear hk k)
    | ((first | refine RS.st fun A B hA hB => ?_ | refine RQ.st fun A B hA hB => ?_); simp [hge, onW_t, onW_f, onV_s]; first | ((first | refine hA _ _ _ ?_ ?_ | refine hA _ _ _ ?_ (by first | exact .inl rfl | exact .inr (by decide)) ?_); (focus (simp [hge] <;> omega)); clear hA hB A B) | (refine hB ?_; clear hA hB A B) | (refine onV_if ?_ ?_; (focus (first | omega | (refine ⟨?_, ?_⟩ <;> omega))); simp only [onV_s]; (first | refine hA _ _ _ ?_ ?_ | refine hA _ _ _ ?_ (by first | exact .inl rfl | exact .inr (by decide)) ?_); (focus (simp [hge] <;> omega)); clear hA hB A B))
    | (refine RQ.nl ?_; refine hk _ _ ?_; clear hk k)
    | refine WP.sr fun k hk => ?_ | refine WP.r fun k hk => ?_
    | refine WP.sd _ rfl fun k hk => ?_ | refine WP.d _ rfl fun k hk => ?_
    | (refine WP.cc fun A B hA hB => ?_; simp [hge, onB_t, onB_f]; first | (refine hA ?_; clear hA hB A B) | (refine hB ?_; clear hA hB A B) | (refine onB_if (fun h => hA ?_) (fun h => hB ?_) <;> clear hA hB A B))
    | refine WP.q ?_ | refine WP.b ?_)
  refine CT.wpSeq (F := F7) ?_ ?_ ?_ ?_ ?_
  · exact F7_ok
  · exact mixed
  · exact Nat.le_refl _
  · rfl
  repeat' (first
    | refine WP.t ?_ | refine WP.k ?_ | refine WP.e ?_ | refine Qn ?_ | refine Qr ?_ | refine Qe ?_ | refine Bn ?_ | refine Br ?_ | refine Be ?_ | refine Bx (by decide) ?_
    | (refine RS.nl ?_; refine hk _ _ ?_; clear hk k)
    | ((first | refine RS.st fun A B hA hB => ?_ | refine RQ.st fun A B hA hB => ?_); simp [hge, hi1, hi3, onW_t, onW_f, onV_s]; first | ((first | refine hA _ _ _ ?_ ?_ | refine hA _ _ _ ?_ (by first | exact .inl rfl | exact .inr (by decide)) ?_); (focus (simp [hge, hi1, hi3] <;> omega)); clear hA hB A B) | (refine hB ?_; clear hA hB A B) | (refine onV_if ?_ ?_; (focus (first | omega | (refine ⟨?_, ?_⟩ <;> omega))); simp only [onV_s]; (first | refine hA _ _ _ ?_ ?_ | refine hA _ _ _ ?_ (by first | exact .inl rfl | exact .inr (by decide)) ?_); (focus (simp [hge, hi1, hi3] <;> omega)); clear hA hB A B))
    | (refine RQ.nl ?_; refine hk _ _ ?_; clear hk k)
    | refine WP.sr fun k hk => ?_ | refine WP.r fun k hk => ?_
    | refine WP.sd _ rfl fun k hk => ?_ | refine WP.d _ rfl fun k hk => ?_
    | (refine WP.cc fun A B hA hB => ?_; simp [hge, hi1, hi3, onB_t, onB_f]; first | (refine hA ?_; clear hA hB A B) | (refine hB ?_; clear hA hB A B) | (refine onB_if (fun h => hA ?_) (fun h => hB ?_) <;> clear hA hB A B))
    | refine WP.q ?_ | refine WP.b ?_)
  refine CT.wpSeq (F := F7) ?_ ?_ ?_ ?_ ?_
  · exact F7_ok
  · exact mixed
  · exact Nat.le_refl _
  · rfl
  repeat' (first
    | refine WP.t ?_ | refine WP.k ?_ | refine WP.e ?_ | refine Qn ?_ | refine Qr ?_ | refine Qe ?_ | refine Bn ?_ | refine Br ?_ | refine Be ?_ | refine Bx (by decide) ?_
    | (refine RS.nl ?_; refine hk _ _ ?_; clear hk k)
    | ((first | refine RS.st fun A B hA hB => ?_ | refine RQ.st fun A B hA hB => ?_); simp [hge, onW_t, onW_f, onV_s]; first | ((first | refine hA _ _ _ ?_ ?_ | refine hA _ _ _ ?_ (by first | exact .inl rfl | exact .inr (by decide)) ?_); (focus (simp [hge] <;> omega)); clear hA hB A B) | (refine hB ?_; clear hA hB A B) | (refine onV_if ?_ ?_; (focus (first | omega | (refine ⟨?_, ?_⟩ <;> omega))); simp only [onV_s]; (first | refine hA _ _ _ ?_ ?_ | refine hA _ _ _ ?_ (by first | exact .inl rfl | exact .inr (by decide)) ?_); (focus (simp [hge] <;> omega)); clear hA hB A B))
    | (refine RQ.nl ?_; refine hk _ _ ?_; clear hk k)
    | refine WP.sr fun k hk => ?_ | refine WP.r fun k hk => ?_
    | refine WP.sd _ rfl fun k hk => ?_ | refine WP.d _ rfl fun k hk => ?_
    | (refine WP.cc fun A B hA hB => ?_; simp [hge, onB_t, onB_f]; first | (refine hA ?_; clear hA hB A B) | (refine hB ?_; clear hA hB A B) | (refine onB_if (fun h => hA ?_) (fun h => hB ?_) <;> clear hA hB A B))
    | refine WP.q ?_ | refine WP.b ?_)
  refine CT.wpSeq (F := F7) ?_ ?_ ?_ ?_ ?_
  · exact F7_ok
  · exact mixed
  · exact Nat.le_refl _
  · rfl
  repeat' (first
    | refine WP.t ?_ | refine WP.k ?_ | refine WP.e ?_ | refine Qn ?_ | refine Qr ?_ | refine Qe ?_ | refine Bn ?_ | refine Br ?_ | refine Be ?_ | refine Bx (by decide) ?_
    | (refine RS.nl ?_; refine hk _ _ ?_; clear hk k)
    | ((first | refine RS.st fun A B hA hB => ?_ | refine RQ.st fun A B hA hB => ?_); simp [hge, onW_t, onW_f, onV_s]; first | ((first | refine hA _ _ _ ?_ ?_ | refine hA _ _ _ ?_ (by first | exact .inl rfl | exact .inr (by decide)) ?_); (focus (simp [hge] <;> omega)); clear hA hB A B) | (refine hB ?_; clear hA hB A B) | (refine onV_if ?_ ?_; (focus (first | omega | (refine ⟨?_, ?_⟩ <;> omega))); simp only [onV_s]; (first | refine hA _ _ _ ?_ ?_ | refine hA _ _ _ ?_ (by first | exact .inl rfl | exact .inr (by decide)) ?_); (focus (simp [hge] <;> omega)); clear hA hB A B))
    | (refine RQ.nl ?_; refine hk _ _ ?_; clear hk k)
    | refine WP.sr fun k hk => ?_ | refine WP.r fun k hk => ?_
    | refine WP.sd _ rfl fun k hk => ?_ | refine WP.d _ rfl fun k hk => ?_
    | (refine WP.cc fun A B hA hB => ?_; simp [hge, onB_t, onB_f]; first | (refine hA ?_; clear hA hB A B) | (refine hB ?_; clear hA hB A B) | (refine onB_if (fun h => hA ?_) (fun h => hB ?_) <;> clear hA hB A B))
    | refine WP.q ?_ | refine WP.b ?_)
  refine CT.wpSeq (F := F7) ?_ ?_ ?_ ?_ ?_
  · exact F7_ok
  · exact mixed
  · exact Nat.le_refl _
  · rfl
  repeat' (first
    | refine WP.t ?_ | refine WP.k ?_ | refine WP.e ?_ | refine Qn ?_ | refine Qr ?_ | refine Qe ?_ | refine Bn ?_ | refine Br ?_ | refine Be ?_ | refine Bx (by decide) ?_
    | (refine RS.nl ?_; refine hk _ _ ?_; clear hk k)
    | ((first | refine RS.st fun A B hA hB => ?_ | refine RQ.st fun A B hA hB => ?_); simp [hge, onW_t, onW_f, onV_s]; first | ((first | refine hA _ _ _ ?_ ?_ | refine hA _ _ _ ?_ (by first | exact .inl rfl | exact .inr (by decide)) ?_); (focus (simp [hge] <;> omega)); clear hA hB A B) | (refine hB ?_; clear hA hB A B) | (refine onV_if ?_ ?_; (focus (first | omega | (refine ⟨?_, ?_⟩ <;> omega))); simp only [onV_s]; (first | refine hA _ _ _ ?_ ?_ | refine hA _ _ _ ?_ (by first | exact .inl rfl | exact .inr (by decide)) ?_); (focus (simp [hge] <;> omega)); clear hA hB A B))
    | (refine RQ.nl ?_; refine hk _ _ ?_; clear hk k)
    | refine WP.sr fun k hk => ?_ | refine WP.r fun k hk => ?_
    | refine WP.sd _ rfl fun k hk => ?_ | refine WP.d _ rfl fun k hk => ?_
    | (refine WP.cc fun A B hA hB => ?_; simp [hge, onB_t, onB_f]; first | (refine hA ?_; clear hA hB A B) | (refine hB ?_; clear hA hB A B) | (refine onB_if (fun h => hA ?_) (fun h => hB ?_) <;> clear hA hB A B))
    | refine WP.q ?_ | refine WP.b ?_)
  refine CT.wpSeq (F := F7) ?_ ?_ ?_ ?_ ?_
  · exact F7_ok
  · exact mixed
  · exact Nat.le_refl _
  · rfl
  repeat' (first
    | refine WP.t ?_ | refine WP.k ?_ | refine WP.e ?_ | refine Qn ?_ | refine Qr ?_ | refine Qe ?_ | refine Bn ?_ | refine Br ?_ | refine Be ?_ | refine Bx (by decide) ?_
    | (refine RS.nl ?_; refine hk _ _ ?_; clear hk k)
    | ((first | refine RS.st fun A B hA hB => ?_ | refine RQ.st fun A B hA hB => ?_); simp [hge, hi2, onW_t, onW_f, onV_s]; first | ((first | refine hA _ _ _ ?_ ?_ | refine hA _ _ _ ?_ (by first | exact .inl rfl | exact .inr (by decide)) ?_); (focus (simp [hge, hi2] <;> omega)); clear hA hB A B) | (refine hB ?_; clear hA hB A B) | (refine onV_if ?_ ?_; (focus (first | omega | (refine ⟨?_, ?_⟩ <;> omega))); simp only [onV_s]; (first | refine hA _ _ _ ?_ ?_ | refine hA _ _ _ ?_ (by first | exact .inl rfl | exact .inr (by decide)) ?_); (focus (simp [hge, hi2] <;> omega)); clear hA hB A B))
    | (refine RQ.nl ?_; refine hk _ _ ?_; clear hk k)
    | refine WP.sr fun k hk => ?_ | refine WP.r fun k hk => ?_
    | refine WP.sd _ rfl fun k hk => ?_ | refine WP.d _ rfl fun k hk => ?_
    | (refine WP.cc fun A B hA hB => ?_; simp [hge, hi2, onB_t, onB_f]; first | (refine hA ?_; clear hA hB A B) | (refine hB ?_; clear hA hB A B) | (refine onB_if (fun h => hA ?_) (fun h => hB ?_) <;> clear hA hB A B))
    | refine WP.q ?_ | refine WP.b ?_)
  refine CT.facts (P := fun T => T.get 0 = .ls s.nx 0 e.length ∧ T.get 1 = .int .i64 i ∧ T.get 2 = .sl [[.str pk, .bool pb, .str ps, .int .i64 pn]] ∧ T.get 7 = .int .i64 1 ∧ T.get 8 = .int .i64 e.length) (by simp [Pr.cs]) ?_
  rintro T ⟨g0, g1, g2, g7, g8⟩
  refine CT.trk (x := 0) g0 hge (by omega) fun q cap hcap => ?_
  have hnn : (s.mv id (.row 4 (true, 165) (e.map Pr.cs))).nx = s.nx + 1 := rfl
  have hgid : (s.mv id (.row 4 (true, 165) (e.map Pr.cs))).get id = none := by simp [St.mv, St.get_push, St.get_drop, hne]
  generalize s.mv id (.row 4 (true, 165) (e.map Pr.cs)) = s1 at *
  by_cases hroom : e.length + 1 ≤ cap
  · refine CTz.room (x := 0) (h := e.length + 1) (List.mem_singleton.2 rfl) g0 hge (by omega) (by simp) (by omega) hroom (.inr (Nat.le_refl _)) ?_
    have hg2 : (s1.put s.nx (.row 4 (true, 165) (e.map Pr.cs ++ List.replicate (e.length + 1 - e.length) (List.replicate 4 .junk)))).get s.nx = some (.row 4 (true, 165) (e.map Pr.cs ++ [[.junk, .junk, .junk, .junk]])) := by
      rw [St.get_put_same]
      have : e.length + 1 - e.length = 1 := by omega
      rw [this]; rfl
    have hgid2 : (s1.put s.nx (.row 4 (true, 165) (e.map Pr.cs ++ List.replicate (e.length + 1 - e.length) (List.replicate 4 .junk)))).get id = none := by
      rw [St.get_put, if_neg hne]; exact hgid
    have hnn2 : (s1.put s.nx (.row 4 (true, 165) (e.map Pr.cs ++ List.replicate (e.length + 1 - e.length) (List.replicate 4 .junk)))).nx = s.nx + 1 := hnn
    generalize s1.put s.nx (.row 4 (true, 165) (e.map Pr.cs ++ List.replicate (e.length + 1 - e.length) (List.replicate 4 .junk))) = s2 at *
    have hng : ¬ ((cap : Int) < (e.length : Int) + 1) := by omega
    refine CTz.seq (L1 := [(0, .slice (some q) e.length cap)]) (CTL.seq (L1 := [(0, .slice (some q) e.length cap)]) (CTL.region ?_))
    refine OTL.step (i := 0) (rest := [1, 2, 3, 4, 5]) rfl rfl rfl rfl (Step1.val (r := T.get 8) (s' := s2) rfl trivial) ?_
    refine OTL.step (i := 1) (rest := [2, 3, 4, 5]) rfl rfl rfl rfl (Step1.val (r := T.get 7) (s' := s2) rfl trivial) ?_
    refine OTL.step (i := 2) (rest := [3, 4, 5]) rfl rfl rfl rfl (Step1.val (r := .int .i64 ((e.length : Int) + 1)) (s' := s2) (by simp [g7, g8, hwn]) trivial) ?_
    refine OTL.move (i := 3) (x := 0) (d := 29) (v := .slice (some q) e.length cap) (rest := [4, 5]) rfl rfl rfl rfl (by show 29 < 95; decide) (by simp) rfl ?_
    refine OTL.cap (i := 4) (x := 29) (q := some q) (len := e.length) (cap := cap) (y := ⟨1, 24, false, [.slice none 0 0], .slice 165, false, false⟩) (rest := [5]) rfl rfl rfl rfl rfl rfl rfl (by simp only [env]; exact ti126) rfl (by simp) rfl ?_
    refine OTL.step (i := 5) (rest := []) rfl rfl rfl rfl (Step1.val (r := .bool false) (s' := s2) (by simp [hng]) trivial) ?_
    refine OTL.nil (by simp) ?_
    refine CTL.cond (t := false) rfl (CTL.skip ?_)
    refine CTz.seq (L1 := []) (CTL.region ?_)
    refine OTL.move (i := 0) (x := 0) (d := 56) (v := .slice (some q) e.length cap) (rest := [1, 2, 3, 4, 5]) rfl rfl rfl rfl (by show 56 < 95; decide) (by simp) rfl ?_
    refine OTL.weak (L' := [(56, .slice (some q) e.length cap)]) (by simp) ?_
    refine OTL.step (i := 1) (rest := [2, 3, 4, 5]) rfl rfl rfl rfl (Step1.val (r := .int .i64 e.length) (s' := s2) (by simp [g8]) trivial) ?_
    refine OTL.step (i := 2) (rest := [3, 4, 5]) rfl rfl rfl rfl (Step1.val (r := .int .i64 1) (s' := s2) (by simp [g7]) trivial) ?_
    refine OTL.step (i := 3) (rest := [4, 5]) rfl rfl rfl rfl (Step1.val (r := .int .i64 ((e.length + 1 : Nat) : Int)) (s' := s2) (by simp [hwn]) trivial) ?_
    refine OTL.slice (kk := .i64) (i := 4) (x := 56) (y := 59) (d := 60) (id := s.nx) (off := 0) (len := e.length) (h := e.length + 1) (q := q) (cap := cap) (rest := [5]) rfl rfl rfl rfl (by show 60 < 95; decide) (by simp only [env]; exact ti126) rfl (by simp only [env]; exact ti165) (by simp) (by simp [g0]) (by simp) hg2 (by omega) hroom rfl ?_
    refine OTL.step (i := 5) (rest := []) rfl rfl rfl rfl (Step1.val (r := .ls s.nx 0 (e.length + 1)) (s' := s2) (by simp) trivial) ?_
    refine OTL.nil (by simp) ?_
    refine CTz.facts (P := fun T => T.get 0 = .ls s.nx 0 (e.length + 1) ∧ T.get 1 = .int .i64 i ∧ T.get 2 = .sl [[.str pk, .bool pb, .str ps, .int .i64 pn]] ∧ T.get 7 = .int .i64 1) (by simp [g1, g2, g7]) ?_
    clear g0 g1 g2 g7 g8
    rintro T ⟨g0, g1, g2, g7⟩
    refine CTz.of (WP_sound F7_ok mixed (Nat.le_refl _) _ _ _ _ (by rfl) ?_)
    have hwi : IntKind.i64.wrap ((i : Int) + 1) = (i : Int) + 1 := wrap64 (by omega) (by omega)
    have hx1 : i + (e.length + 1 - i) ≤ e.length + 1 := by omega
    have hx2 : i + 1 + (e.length + 1 - (i + 1)) ≤ e.length + 1 := by omega
    have hcp1 := junk_all (e.map Pr.cs) hXs i e.length (by simp) hi hg2
    generalize hs3 : s2.put s.nx (.row 4 (true, 165) ((e.map Pr.cs).take (i + 1) ++ (e.map Pr.cs).drop i)) = s3 at hcp1
    have hg3 : s3.get s.nx = some (.row 4 (true, 165) ((e.map Pr.cs).take (i + 1) ++ (e.map Pr.cs).drop i)) := by rw [← hs3]; exact St.get_put_same _ _ _
    have hR1 : ((e.map Pr.cs).take (i + 1) ++ (e.map Pr.cs).drop i).length = e.length + 1 := by simp; omega
    have hcp2 := put1_all _ [.str pk, .bool pb, .str ps, .int .i64 pn] ⟨rfl, rfl⟩ i (by rw [hR1]; omega) hg3
    rw [hR1] at hcp2
    have hfin : ((e.map Pr.cs).take (i + 1) ++ (e.map Pr.cs).drop i).take i ++ [.str pk, .bool pb, .str ps, .int .i64 pn] :: ((e.map Pr.cs).take (i + 1) ++ (e.map Pr.cs).drop i).drop (i + 1) = (insR e i ⟨pk, ⟨pb, ps, pn⟩⟩).map Pr.cs := by
      rw [List.take_append_of_le_length (by simp; omega), List.take_take, List.drop_append, List.drop_eq_nil_of_le (by simp; omega)]
      have h1 : min i (i + 1) = i := by omega
      have h2 : i + 1 - (List.take (i + 1) (List.map Pr.cs e)).length = 0 := by simp; omega
      rw [h1, h2]
      simp [insR, Pr.cs]
    rw [hfin] at hcp2
    repeat' (first
      | refine WP.t ?_ | refine WP.k ?_ | refine WP.e ?_ | refine Qn ?_ | refine Qr ?_ | refine Qe ?_ | refine Bn ?_ | refine Br ?_ | refine Be ?_ | refine Bx (by decide) ?_
      | (refine RS.nl ?_; refine hk _ _ ?_; clear hk k)
      | ((first | refine RS.st fun A B hA hB => ?_ | refine RQ.st fun A B hA hB => ?_); simp [F7, gOvl, hg2, g0, g1, g2, g7, hwi, hx1, hx2, hcp1, hcp2, hg3, hR1, onW_t, onW_f, onV_s]; first | ((first | refine hA _ _ _ ?_ ?_ | refine hA _ _ _ ?_ (by first | exact .inl rfl | exact .inr (by decide)) ?_); (focus (simp [F7, gOvl, hg2, g0, g1, g2, g7, hwi, hx1, hx2, hcp1, hcp2, hg3, hR1] <;> omega)); clear hA hB A B) | (refine hB ?_; clear hA hB A B) | (refine onV_if ?_ ?_; (focus (first | omega | (refine ⟨?_, ?_⟩ <;> omega))); simp only [onV_s]; (first | refine hA _ _ _ ?_ ?_ | refine hA _ _ _ ?_ (by first | exact .inl rfl | exact .inr (by decide)) ?_); (focus (simp [F7, gOvl, hg2, g0, g1, g2, g7, hwi, hx1, hx2, hcp1, hcp2, hg3, hR1] <;> omega)); clear hA hB A B))
      | (refine RQ.nl ?_; refine hk _ _ ?_; clear hk k)
      | refine WP.sr fun k hk => ?_ | refine WP.r fun k hk => ?_
      | refine WP.sd _ rfl fun k hk => ?_ | refine WP.d _ rfl fun k hk => ?_
      | (refine WP.cc fun A B hA hB => ?_; simp [F7, gOvl, hg2, g0, g1, g2, g7, hwi, hx1, hx2, hcp1, hcp2, hg3, hR1, onB_t, onB_f]; first | (refine hA ?_; clear hA hB A B) | (refine hB ?_; clear hA hB A B) | (refine onB_if (fun h => hA ?_) (fun h => hB ?_) <;> clear hA hB A B))
      | refine WP.q ?_ | refine WP.b ?_)
    refine finI (k := (true, 165)) (rd := s.nx) (m := e.length + 1) (l := insR e i _) (.inr rfl) ?_ rfl (by simp [g0]) ?_ (Nat.le_refl _) (by simp [insR]; omega)
    · rw [St.get_put, if_neg hne, ← hs3, St.get_put, if_neg hne]; exact hgid2
    · simp [St.get_put]
  · have hng : ((cap : Int) < (e.length : Int) + 1) := by omega
    have hX2 : ∀ x ∈ (e.map Pr.cs).drop i, x.length = 4 ∧ x.all AV.one = true := fun x hx => hXs x (List.mem_of_mem_drop hx)
    have hws : IntKind.i64.wrap ((e.length : Int) + 1 - (i : Int)) = ((e.length + 1 - i : Nat) : Int) := by rw [wrap64 (by omega) (by omega)]; omega
    have hwi : IntKind.i64.wrap ((i : Int) + 1) = (i : Int) + 1 := wrap64 (by omega) (by omega)
    have heq : i + (e.length + 1 - i) = e.length + 1 := by omega
    refine CTz.seq (L1 := []) (CTL.seq (L1 := [(0, .slice (some q) e.length cap)]) (CTL.region ?_))
    refine OTL.step (i := 0) (rest := [1, 2, 3, 4, 5]) rfl rfl rfl rfl (Step1.val (r := T.get 8) (s' := s1) rfl trivial) ?_
    refine OTL.step (i := 1) (rest := [2, 3, 4, 5]) rfl rfl rfl rfl (Step1.val (r := T.get 7) (s' := s1) rfl trivial) ?_
    refine OTL.step (i := 2) (rest := [3, 4, 5]) rfl rfl rfl rfl (Step1.val (r := .int .i64 ((e.length : Int) + 1)) (s' := s1) (by simp [g7, g8, hwn]) trivial) ?_
    refine OTL.move (i := 3) (x := 0) (d := 29) (v := .slice (some q) e.length cap) (rest := [4, 5]) rfl rfl rfl rfl (by show 29 < 95; decide) (by simp) rfl ?_
    refine OTL.cap (i := 4) (x := 29) (q := some q) (len := e.length) (cap := cap) (y := ⟨1, 24, false, [.slice none 0 0], .slice 165, false, false⟩) (rest := [5]) rfl rfl rfl rfl rfl rfl rfl (by simp only [env]; exact ti126) rfl (by simp) rfl ?_
    refine OTL.step (i := 5) (rest := []) rfl rfl rfl rfl (Step1.val (r := .bool true) (s' := s1) (by simp [hng]) trivial) ?_
    refine OTL.nil (by simp) ?_
    refine CTL.cond (t := true) rfl (CTL.out ?_)
    refine CTz.seq (L1 := []) (CTL.region ?_)
    refine OTL.move (i := 0) (x := 0) (d := 32) (v := .slice (some q) e.length cap) (rest := [1, 2, 3, 4, 5, 6, 7, 8, 9]) rfl rfl rfl rfl (by show 32 < 95; decide) (by simp) rfl ?_
    refine OTL.step (i := 1) (rest := [2, 3, 4, 5, 6, 7, 8, 9]) rfl rfl rfl rfl (Step1.val (r := .int .i64 i) (s' := s1) (by simp [g1]) trivial) ?_
    refine OTL.slice (kk := .i64) (i := 2) (x := 32) (y := 33) (d := 34) (id := s.nx) (off := 0) (len := e.length) (h := i) (q := q) (cap := cap) (rest := [3, 4, 5, 6, 7, 8, 9]) rfl rfl rfl rfl (by show 34 < 95; decide) (by simp only [env]; exact ti126) rfl (by simp only [env]; exact ti165) (by simp) (by simp [g0]) (by simp) hge (by omega) (by omega) rfl ?_
    refine OTL.step (i := 3) (rest := [4, 5, 6, 7, 8, 9]) rfl rfl rfl rfl (Step1.val (r := .int .i64 e.length) (s' := s1) (by simp [g8]) trivial) ?_
    refine OTL.step (i := 4) (rest := [5, 6, 7, 8, 9]) rfl rfl rfl rfl (Step1.val (r := .int .i64 1) (s' := s1) (by simp [g7]) trivial) ?_
    refine OTL.step (i := 5) (rest := [6, 7, 8, 9]) rfl rfl rfl rfl (Step1.val (r := .int .i64 ((e.length : Int) + 1)) (s' := s1) (by simp [hwn]) trivial) ?_
    refine OTL.step (i := 6) (rest := [7, 8, 9]) rfl rfl rfl rfl (Step1.val (r := .int .i64 i) (s' := s1) (by simp [g1]) trivial) ?_
    refine OTL.step (i := 7) (rest := [8, 9]) rfl rfl rfl rfl (Step1.val (r := .int .i64 ((e.length + 1 - i : Nat) : Int)) (s' := s1) (by simp [hws]) trivial) ?_
    refine OTL.appendZ (kk := .i64) (kn := .i64) (i := 8) (x := 34) (y := 39) (id := s.nx) (off := 0) (len := i) (m := e.length + 1 - i) (sz := 4) (q := q) (cap := cap) (rest := [9]) rfl rfl rfl rfl rfl rfl rfl (by simp only [env]; exact ti126) rfl (by simp only [env]; exact ti3) rfl (by simp only [env]; exact ti165) rfl rfl (by omega) (by simp) (by simp) (by simp) hge (by simp; omega) (by omega) (by omega) (by rw [heq]; exact hby) (by decide) rfl
      (fun y hy => (hXs y hy).1) ?_
    refine OTL.step (i := 9) (rest := []) rfl rfl rfl rfl (Step1.val (r := .ls s1.nx 0 (e.length + 1)) (s' := s1.push (.row 4 (true, 165) ((((e.map Pr.cs).drop 0).take i) ++ List.replicate (e.length + 1 - i) ([Value.string { data := #[] }, Value.bool false, Value.string { data := #[] }, Value.int IntKind.i64 0].map ofConst)))) (by simp [heq]) trivial) ?_
    refine OTL.nil (by simp) ?_
    refine CTz.facts (P := fun T => T.get 0 = .ls s.nx 0 e.length ∧ T.get 1 = .int .i64 i ∧ T.get 2 = .sl [[.str pk, .bool pb, .str ps, .int .i64 pn]] ∧ T.get 7 = .int .i64 1 ∧ T.get 9 = .ls (s.nx + 1) 0 (e.length + 1)) (by simp [g0, g1, g2, g7, hnn]) ?_
    clear g0 g1 g2 g7 g8
    rintro T ⟨g0, g1, g2, g7, g9⟩
    refine CTz.of (WP_sound F7_ok mixed (Nat.le_refl _) _ _ _ _ (by rfl) ?_)
    have hzl : ((((e.map Pr.cs).drop 0).take i) ++ List.replicate (e.length + 1 - i) ([Value.string { data := #[] }, Value.bool false, Value.string { data := #[] }, Value.int IntKind.i64 0].map ofConst)).length = e.length + 1 := by simp; omega
    have hzt : ((((e.map Pr.cs).drop 0).take i) ++ List.replicate (e.length + 1 - i) ([Value.string { data := #[] }, Value.bool false, Value.string { data := #[] }, Value.int IntKind.i64 0].map ofConst)).take i = (e.map Pr.cs).take i := by
      rw [List.take_append_of_le_length (by simp; omega), List.take_take]
      simp
    have hgA : (s1.push (.row 4 (true, 165) ((((e.map Pr.cs).drop 0).take i) ++ List.replicate (e.length + 1 - i) ([Value.string { data := #[] }, Value.bool false, Value.string { data := #[] }, Value.int IntKind.i64 0].map ofConst)))).get (s.nx + 1) = some (.row 4 (true, 165) ((((e.map Pr.cs).drop 0).take i) ++ List.replicate (e.length + 1 - i) ([Value.string { data := #[] }, Value.bool false, Value.string { data := #[] }, Value.int IntKind.i64 0].map ofConst))) := by
      rw [← hnn]; exact St.get_push_same _ _
    have hgB : (s1.push (.row 4 (true, 165) ((((e.map Pr.cs).drop 0).take i) ++ List.replicate (e.length + 1 - i) ([Value.string { data := #[] }, Value.bool false, Value.string { data := #[] }, Value.int IntKind.i64 0].map ofConst)))).get s.nx = some (.row 4 (true, 165) (e.map Pr.cs)) := by
      rw [St.get_push, if_neg (by omega)]; exact hge
    have hgC : (s1.push (.row 4 (true, 165) ((((e.map Pr.cs).drop 0).take i) ++ List.replicate (e.length + 1 - i) ([Value.string { data := #[] }, Value.bool false, Value.string { data := #[] }, Value.int IntKind.i64 0].map ofConst)))).get id = none := by
      rw [St.get_push, if_neg (by omega)]; exact hgid
    show WP _ _ _ _ _ (s1.push (.row 4 (true, 165) ((((e.map Pr.cs).drop 0).take i) ++ List.replicate (e.length + 1 - i) ([Value.string { data := #[] }, Value.bool false, Value.string { data := #[] }, Value.int IntKind.i64 0].map ofConst))))
    generalize (((e.map Pr.cs).drop 0).take i) ++ List.replicate (e.length + 1 - i) ([Value.string { data := #[] }, Value.bool false, Value.string { data := #[] }, Value.int IntKind.i64 0].map ofConst) = Z at *
    generalize s1.push (.row 4 (true, 165) Z) = s2 at *
    have hcp1 := put1_all Z [.str pk, .bool pb, .str ps, .int .i64 pn] ⟨rfl, rfl⟩ i (by omega) hgA
    rw [hzl] at hcp1
    generalize hs3 : s2.put (s.nx + 1) (.row 4 (true, 165) (Z.take i ++ [.str pk, .bool pb, .str ps, .int .i64 pn] :: Z.drop (i + 1))) = s3 at hcp1
    have hg3 : s3.get (s.nx + 1) = some (.row 4 (true, 165) (Z.take i ++ [.str pk, .bool pb, .str ps, .int .i64 pn] :: Z.drop (i + 1))) := by rw [← hs3]; exact St.get_put_same _ _ _
    have hg3b : s3.get s.nx = some (.row 4 (true, 165) (e.map Pr.cs)) := by rw [← hs3, St.get_put, if_neg (by omega)]; exact hgB
    have hdl : ((e.map Pr.cs).drop i).length = e.length - i := by simp
    have hcp2 := putn_all _ ((e.map Pr.cs).drop i) hX2 (i + 1) (by simp [hzl]; omega) hg3
    have hfin : (Z.take i ++ [.str pk, .bool pb, .str ps, .int .i64 pn] :: Z.drop (i + 1)).take (i + 1) ++ (e.map Pr.cs).drop i = (insR e i ⟨pk, ⟨pb, ps, pn⟩⟩).map Pr.cs := by
      have h1 : (Z.take i).length = i := by simp; omega
      rw [List.take_append, List.take_of_length_le (by omega), h1, hzt]
      have h2 : i + 1 - i = 1 := by omega
      rw [h2]
      simp [insR, Pr.cs]
    rw [hfin, hdl] at hcp2
    have htd : List.take (e.length - i) (List.drop i (e.map Pr.cs)) = List.drop i (e.map Pr.cs) := List.take_of_length_le (by rw [hdl]; exact Nat.le_refl _)
    have hx3 : i + (e.length - i) ≤ e.length := by omega
    have hx1 : i + (e.length + 1 - i) ≤ e.length + 1 := by omega
    repeat' (first
      | refine WP.t ?_ | refine WP.k ?_ | refine WP.e ?_ | refine Qn ?_ | refine Qr ?_ | refine Qe ?_ | refine Bn ?_ | refine Br ?_ | refine Be ?_ | refine Bx (by decide) ?_
      | (refine RS.nl ?_; refine hk _ _ ?_; clear hk k)
      | ((first | refine RS.st fun A B hA hB => ?_ | refine RQ.st fun A B hA hB => ?_); simp [F7, gOvl, hgA, hgB, g0, g1, g2, g7, g9, hwi, hx1, hx3, hcp1, hcp2, hg3, hg3b, hzl, hi1, hi3, htd, onW_t, onW_f, onV_s]; first | ((first | refine hA _ _ _ ?_ ?_ | refine hA _ _ _ ?_ (by first | exact .inl rfl | exact .inr (by decide)) ?_); (focus (simp [F7, gOvl, hgA, hgB, g0, g1, g2, g7, g9, hwi, hx1, hx3, hcp1, hcp2, hg3, hg3b, hzl, hi1, hi3, htd] <;> omega)); clear hA hB A B) | (refine hB ?_; clear hA hB A B) | (refine onV_if ?_ ?_; (focus (first | omega | (refine ⟨?_, ?_⟩ <;> omega))); simp only [onV_s]; (first | refine hA _ _ _ ?_ ?_ | refine hA _ _ _ ?_ (by first | exact .inl rfl | exact .inr (by decide)) ?_); (focus (simp [F7, gOvl, hgA, hgB, g0, g1, g2, g7, g9, hwi, hx1, hx3, hcp1, hcp2, hg3, hg3b, hzl, hi1, hi3, htd] <;> omega)); clear hA hB A B))
      | (refine RQ.nl ?_; refine hk _ _ ?_; clear hk k)
      | refine WP.sr fun k hk => ?_ | refine WP.r fun k hk => ?_
      | refine WP.sd _ rfl fun k hk => ?_ | refine WP.d _ rfl fun k hk => ?_
      | (refine WP.cc fun A B hA hB => ?_; simp [F7, gOvl, hgA, hgB, g0, g1, g2, g7, g9, hwi, hx1, hx3, hcp1, hcp2, hg3, hg3b, hzl, hi1, hi3, htd, onB_t, onB_f]; first | (refine hA ?_; clear hA hB A B) | (refine hB ?_; clear hA hB A B) | (refine onB_if (fun h => hA ?_) (fun h => hB ?_) <;> clear hA hB A B))
      | refine WP.q ?_ | refine WP.b ?_)
    refine finI (k := (true, 165)) (rd := s.nx + 1) (m := e.length + 1) (l := insR e i _) (.inr rfl) ?_ rfl (by simp [g9]) ?_ (by omega) (by simp [insR]; omega)
    · rw [St.get_put, if_neg (by omega), ← hs3, St.get_put, if_neg (by omega)]; exact hgC
    · simp [St.get_put]
end
end Go.Am
namespace Go.Am
open Go.Proofs
def unE (es : List (List AV)) : Option Envr := unL cPr es
def gClone (xs : List AV) (s : St) : Option (AV × St × List Nat) :=
  match xs with
  | [.sl es] => match unL cPr es with
    | some e => if e.length < 268435456 then some (.ls (s.nx + 1) 0 e.length, stC s e, []) else none
    | none => none
  | _ => none
/-- A row of pairs of one's own. -/
def gOwn (s : St) (id n : Nat) : Option Envr :=
  if id < s.nx then (match s.get id with
    | some (.row 4 (true, 165) es) => match unL cPr es with
      | some e => if n = e.length ∧ e.length < 268435456 then some e else none
      | none => none
    | _ => none) else none
theorem gOwn_eq {s : St} {id n : Nat} {e : Envr} (h : gOwn s id n = some e) : id < s.nx ∧ s.get id = some (rowE e) ∧ n = e.length ∧ e.length < 268435456 := by
  unfold gOwn at h
  split at h
  · rename_i hid
    split at h
    · rename_i es hs
      split at h
      · rename_i e' hu
        split at h
        · rename_i hc
          cases h
          have := unL_eq cPr _ _ hu
          subst this
          exact ⟨hid, hs, hc.1, hc.2⟩
        · cases h
      · cases h
    · cases h
  · cases h
theorem gOwn_of {s : St} {id n : Nat} {e : Envr} (hid : id < s.nx) (hs : s.get id = some (rowE e)) (hn : n = e.length) (hl : e.length < 268435456) : gOwn s id n = some e := by
  unfold gOwn
  rw [if_pos hid, hs]
  simp only [rowE]
  rw [unL_Pr]
  simp [hn, hl]
def gIdx2 (xs : List AV) (s : St) : Option (AV × St × List Nat) :=
  match xs with
  | [.ls id 0 n, .fn (.func g) [] [.ptr id2 0]] => match gOwn s id n with
    | some e => match gIdx [.sl (e.map Pr.cs), .fn (.func g) [] [.ptr id2 0]] (s.drop id) with
      | some (.int .i64 r, _, _) => some (.int .i64 r, s, [])
      | _ => none
    | none => none
  | _ => gIdx xs s
def gDel (xs : List AV) (s : St) : Option (AV × St × List Nat) :=
  match xs with
  | [.ls id 0 n, .fn (.func g) [] [.ptr id2 0]] => match gOwn s id n with
    | some e => match gIdx2 xs s with
      | some (.int .i64 r, _, _) => if r = -1 then some (.ls id 0 n, s, []) else none
      | _ => none
    | none => none
  | _ => none
def gIns (xs : List AV) (s : St) : Option (AV × St × List Nat) :=
  match xs with
  | [.ls id 0 n, .int .i64 i, .sl [c]] => match gOwn s id n, cPr.un c with
    | some e, some p => if 0 ≤ i ∧ i ≤ e.length then some (.sl ((insR e i.toNat p).map Pr.cs), s.drop id, [id]) else none
    | _, _ => none
  | _ => none
theorem gIdx_st {xs : List AV} {s s' : St} {r : AV} {l : List Nat} (h : gIdx xs s = some (r, s', l)) : s' = s ∧ l = [] := by
  unfold gIdx at h
  repeat' split at h
  all_goals first | (cases h; done) | (cases h; exact ⟨rfl, rfl⟩)
section
variable {K : Nat} {gw : World} {s : St}
attribute [local simp] awanted xop zOf cz zrow aop ev T0 Slots.put Slots.set Slots.get awr WOk AV.may ofConst abinop aint isConst St.get_push St.get_put St.live AV.fit AV.cells AV.one fieldOf afieldAddr aload ofCells astore splice May eqres env_ti FinP FinZ FinW ares aresL ares1 Fns.addP Fns.add Fns.a0 Fns.a1 Fns.a2 Fns.a3 Fns.a4 abuiltin alenOk alen aindex elemOfT elemId abuildSlice afill chunks ard aappend isSS AV.isStr aminmax placesOf abuild afield aidx isStrD isStrDesc astrop aslice asliceOk abound arange anext aextract aunop aeq AV.ck avseq aveq aconv aconvert onB_t onB_f List.range_succ
theorem gClone_ok (xs : List AV) (s : St) (r : AV) (s' : St) (l : List Nat) (h : gClone xs s = some (r, s', l)) : FT (env K gw) (fun id => id ∈ l) 106 xs s r s' := by
  have hN : (fun id => id ∈ ([] : List Nat)) = NoW := by funext id; simp
  unfold gClone at h
  split at h
  · split at h
    · rename_i e hu
      split at h
      · rename_i hl
        cases h
        rw [unL_eq cPr _ _ hu, hN]
        exact ft_Clone e hl
      · cases h
    · cases h
  · cases h
theorem gIdx2_ok (xs : List AV) (s : St) (r : AV) (s' : St) (l : List Nat) (h : gIdx2 xs s = some (r, s', l)) : FT (env K gw) (fun id => id ∈ l) 108 xs s r s' := by
  have hN : (fun id => id ∈ ([] : List Nat)) = NoW := by funext id; simp
  unfold gIdx2 at h
  split at h
  · rename_i id n g id2
    split at h
    · rename_i e hg
      obtain ⟨hid, hs, rfl, hl⟩ := gOwn_eq hg
      split at h
      · rename_i r0 s0 l0 hi
        cases h
        obtain ⟨rfl, rfl⟩ := gIdx_st hi
        have := gIdx_ok (K := K) (gw := gw) _ _ _ _ _ hi
        rw [hN] at this ⊢
        have h2 := FT.view (es := e.map Pr.cs) hs (fun μ μ' s s' w w' v h => by cases h; exact .int _ _) this
        rwa [List.length_map] at h2
      · cases h
    · cases h
  · exact gIdx_ok _ _ _ _ _ h
def F8 : Fns := (F7.add 106 gClone).add 108 gIdx2
theorem F8_ok : FOk (env K gw) F8 := (F7_ok.add gClone_ok).add gIdx2_ok
theorem gDel_ok (xs : List AV) (s : St) (r : AV) (s' : St) (l : List Nat) (h : gDel xs s = some (r, s', l)) : FT (env K gw) (fun id => id ∈ l) 105 xs s r s' := by
  have hN : (fun id => id ∈ ([] : List Nat)) = NoW := by funext id; simp
  unfold gDel at h
  split at h
  · rename_i id n g id2
    split at h
    · rename_i e hg
      obtain ⟨hid, hs, hn, hl⟩ := gOwn_eq hg
      split at h
      · rename_i r0 s0 l0 hi
        split at h
        · rename_i hr
          subst hr
          cases h
          rw [hN]
          have hst : s0 = s ∧ l0 = [] := by
            unfold gIdx2 at hi
            simp only [hg] at hi
            split at hi
            · cases hi; exact ⟨rfl, rfl⟩
            · cases hi
          obtain ⟨rfl, rfl⟩ := hst
          refine FT.pure (fn := Tryz.f105) F8_ok mixed Tryz.func105 (by kernel_rfl) (by rfl) rfl rfl (by simp) rfl fun μ w => ?_
          repeat' (first
            | refine WP.t ?_ | refine WP.k ?_ | refine WP.e ?_ | refine Qn ?_ | refine Qr ?_ | refine Qe ?_ | refine Bn ?_ | refine Br ?_ | refine Be ?_ | refine Bx (by decide) ?_
            | (refine RS.nl ?_; refine hk _ _ ?_; clear hk k)
            | ((first | refine RS.st fun A B hA hB => ?_ | refine RQ.st fun A B hA hB => ?_); simp [F8, hi, onW_t, onW_f, onV_s]; first | ((first | refine hA _ _ _ ?_ ?_ | refine hA _ _ _ ?_ (by first | exact .inl rfl | exact .inr (by decide)) ?_); (focus (simp [F8, hi] <;> omega)); clear hA hB A B) | (refine hB ?_; clear hA hB A B) | (refine onV_if ?_ ?_; (focus (first | omega | (refine ⟨?_, ?_⟩ <;> omega))); simp only [onV_s]; (first | refine hA _ _ _ ?_ ?_ | refine hA _ _ _ ?_ (by first | exact .inl rfl | exact .inr (by decide)) ?_); (focus (simp [F8, hi] <;> omega)); clear hA hB A B))
            | (refine RQ.nl ?_; refine hk _ _ ?_; clear hk k)
            | refine WP.sr fun k hk => ?_ | refine WP.r fun k hk => ?_
            | refine WP.sd _ rfl fun k hk => ?_ | refine WP.d _ rfl fun k hk => ?_
            | (refine WP.cc fun A B hA hB => ?_; simp [F8, hi, onB_t, onB_f]; first | (refine hA ?_; clear hA hB A B) | (refine hB ?_; clear hA hB A B) | (refine onB_if (fun h => hA ?_) (fun h => hB ?_) <;> clear hA hB A B))
            | refine WP.q ?_ | refine WP.b ?_)
          simp [hid]
        · cases h
      · cases h
    · cases h
  · cases h
theorem gIns_ok (xs : List AV) (s : St) (r : AV) (s' : St) (l : List Nat) (h : gIns xs s = some (r, s', l)) : FT (env K gw) (fun id => id ∈ l) 110 xs s r s' := by
  unfold gIns at h
  split at h
  · rename_i id n i c
    split at h
    · rename_i e p hg hu
      obtain ⟨hid, hs, rfl, hl⟩ := gOwn_eq hg
      split at h
      · rename_i hi
        cases h
        rw [cPr.cs_un _ _ hu]
        obtain ⟨m, rfl⟩ := Int.eq_ofNat_of_zero_le hi.1
        by_cases hm : m = e.length
        · subst hm
          exact ft_InsEnd e p hl hid hs
        · exact ft_InsMid e p m (by omega) hl hid hs
      · cases h
    · cases h
  · cases h
def F9 : Fns := (F8.add 105 gDel).add 110 gIns
theorem F9_ok : FOk (env K gw) F9 := (F8_ok.add gDel_ok).add gIns_ok
/-- A name stands for a value. -/
def withAt (e : Envr) (nm : Str) : Nat := (e.findIdx? fun p => gtS p.k nm).getD e.length
def withE (e : Envr) (nm : Str) (v : V) : Envr := insR e (withAt e nm) ⟨nm, bareV v⟩
theorem withAt_le (e : Envr) (nm : Str) : withAt e nm ≤ e.length := by
  unfold withAt
  cases h : e.findIdx? fun p => gtS p.k nm with
  | none => simp
  | some i => simp; exact Nat.le_of_lt (List.findIdx?_eq_some_iff_getElem.1 h).1
theorem below_E (n : Nat) (e : Envr) : Below n (.sl (e.map Pr.cs)) := below_sl.2 fun c hc x hx => by
  obtain ⟨p, _, rfl⟩ := List.mem_map.1 hc
  exact cPr.bl p n x hx
theorem gIdx2_gt {s2 : St} {id id2 n : Nat} {e : Envr} {nm : Str} (hg : gOwn s2 id n = some e) (h2 : id2 < s2.nx) (hv : s2.get id2 = some (.var 9 [.str nm])) (hne : id2 ≠ id) :
    gIdx2 [.ls id 0 n, .fn (.func 109) [] [.ptr id2 0]] s2 = some (.int .i64 (ixI (e.findIdx? fun p => gtS p.k nm)), s2, []) := by
  obtain ⟨_, _, _, hl⟩ := gOwn_eq hg
  have hLIM : e.length < LIM := by simp only [LIM]; omega
  simp [gIdx2, hg, gIdx, h2, unL_Pr, St.get_drop, hne, hv, hLIM]
theorem gDel_none {s2 : St} {id id2 n : Nat} {e : Envr} {nm : Str} (hg : gOwn s2 id n = some e) (h2 : id2 < s2.nx) (hv : s2.get id2 = some (.var 9 [.str nm])) (hne : id2 ≠ id) (hfn : e.findIdx? (fun p => eqS p.k nm) = none) :
    gDel [.ls id 0 n, .fn (.func 107) [] [.ptr id2 0]] s2 = some (.ls id 0 n, s2, []) := by
  obtain ⟨_, _, _, hl⟩ := gOwn_eq hg
  have hLIM : e.length < LIM := by simp only [LIM]; omega
  simp [gDel, gIdx2, hg, gIdx, h2, unL_Pr, St.get_drop, hne, hv, hLIM, hfn, ixI]
theorem gIns_of {s2 : St} {id n : Nat} {e : Envr} (hg : gOwn s2 id n = some e) (p : Pr) (i : Nat) (hi : i ≤ e.length) : gIns [.ls id 0 n, .int .i64 i, .sl [[.str p.k, .bool p.v.b, .str p.v.s, .int .i64 p.v.n]]] s2 = some (.sl ((insR e i p).map Pr.cs), s2.drop id, [id]) := by
  have hi' : (0 : Int) ≤ (i : Int) ∧ (i : Int) ≤ (e.length : Int) := by omega
  simp only [gIns, hg, show cPr.un [.str p.k, .bool p.v.b, .str p.v.s, .int .i64 p.v.n] = some p from rfl, if_pos hi', Int.toNat_natCast]
set_option maxHeartbeats 4000000 in
theorem ft_With (e : Envr) (nm : Str) (v : V) (hl : e.length < 268435456) (hn : getE e nm = none) : FT (env K gw) NoW 99 [.sl (e.map Pr.cs), .str nm, .agg v.cs] s (.sl ((withE e nm v).map Pr.cs)) s := by
  have hfn : e.findIdx? (fun p => eqS p.k nm) = none := by
    refine List.findIdx?_eq_none_iff.2 fun x hx => ?_
    unfold getE at hn
    simpa [eqS] using List.find?_eq_none.1 (Option.map_eq_none_iff.1 hn) x hx
  have hu := unL_Pr e
  have hwl := withAt_le e nm
  have hwd : withE e nm v = insR e (withAt e nm) ⟨nm, bareV v⟩ := rfl
  have hub : cV.un [.bool v.b, .str v.s, .int .i64 v.n] = some v := rfl
  refine FT.data (fn := Tryz.f99) F9_ok mixed Tryz.func99 (by kernel_rfl) (by rfl) rfl rfl (by simp) rfl fun μ w => ?_
  generalize hsA : stC ((s.push (.var 9 [.str nm])).push (.var 42 [.bool v.b, .str v.s, .int .i64 v.n])) e = sA
  have hAn : sA.nx = s.nx + 1 + 1 + 1 + 1 := by rw [← hsA]; rfl
  have hA0 : sA.get s.nx = some (.var 9 [.str nm]) := by
    rw [← hsA, stC_lo (by simp only [St.nx_push]; omega)]
    simp [St.get_push]
  have hA1 : sA.get (s.nx + 1) = some (.var 42 [.bool v.b, .str v.s, .int .i64 v.n]) := by
    rw [← hsA, stC_lo (by simp only [St.nx_push]; omega)]
    simp [St.get_push]
  have hAr : sA.get (s.nx + 1 + 1 + 1) = some (.row 4 (true, 165) (e.map Pr.cs)) := by rw [← hsA]; exact stC_get _ _
  have hAg : gOwn sA (s.nx + 1 + 1 + 1) e.length = some e := gOwn_of (by omega) (by rw [← hsA]; exact stC_get _ _) rfl hl
  have hid := gIdx2_gt hAg (id2 := s.nx) (by omega) hA0 (by omega)
  have hdl := gDel_none hAg (id2 := s.nx) (by omega) hA0 (by omega) hfn
  have hins := gIns_of hAg ⟨nm, bareV v⟩ (withAt e nm) hwl
  simp only at hins
  have hwat : ∀ o, e.findIdx? (fun p => gtS p.k nm) = o → withAt e nm = o.getD e.length := fun o ho => by unfold withAt; rw [ho]
  cases hx : e.findIdx? (fun p => gtS p.k nm) with
  | none =>
    rw [hx] at hid
    have hw0 : withAt e nm = e.length := hwat _ hx
    rw [hw0] at hins hwd
    simp only [ixI] at hid
    repeat' (first
      | refine WP.t ?_ | refine WP.k ?_ | refine WP.e ?_ | refine Qn ?_ | refine Qr ?_ | refine Qe ?_ | refine Bn ?_ | refine Br ?_ | refine Be ?_ | refine Bx (by decide) ?_
      | (refine RS.nl ?_; refine hk _ _ ?_; clear hk k)
      | ((first | refine RS.st fun A B hA hB => ?_ | refine RQ.st fun A B hA hB => ?_); simp [F9, F8, F7, F6, F5, F4c, F4b, gClone, hu, hl, V.cs, hsA, hAn, hA0, hA1, hAr, hid, hdl, hins, hub, onW_t, onW_f, onV_s]; first | ((first | refine hA _ _ _ ?_ ?_ | refine hA _ _ _ ?_ (by first | exact .inl rfl | exact .inr (by decide)) ?_); (focus (simp [F9, F8, F7, F6, F5, F4c, F4b, gClone, hu, hl, V.cs, hsA, hAn, hA0, hA1, hAr, hid, hdl, hins, hub] <;> omega)); clear hA hB A B) | (refine hB ?_; clear hA hB A B) | (refine onV_if ?_ ?_; (focus (first | omega | (refine ⟨?_, ?_⟩ <;> omega))); simp only [onV_s]; (first | refine hA _ _ _ ?_ ?_ | refine hA _ _ _ ?_ (by first | exact .inl rfl | exact .inr (by decide)) ?_); (focus (simp [F9, F8, F7, F6, F5, F4c, F4b, gClone, hu, hl, V.cs, hsA, hAn, hA0, hA1, hAr, hid, hdl, hins, hub] <;> omega)); clear hA hB A B))
      | (refine RQ.nl ?_; refine hk _ _ ?_; clear hk k)
      | refine WP.sr fun k hk => ?_ | refine WP.r fun k hk => ?_
      | refine WP.sd _ rfl fun k hk => ?_ | refine WP.d _ rfl fun k hk => ?_
      | (refine WP.cc fun A B hA hB => ?_; simp [F9, F8, F7, F6, F5, F4c, F4b, gClone, hu, hl, V.cs, hsA, hAn, hA0, hA1, hAr, hid, hdl, hins, hub, onB_t, onB_f]; first | (refine hA ?_; clear hA hB A B) | (refine hB ?_; clear hA hB A B) | (refine onB_if (fun h => hA ?_) (fun h => hB ?_) <;> clear hA hB A B))
      | refine WP.q ?_ | refine WP.b ?_)
    rw [hwd]
    exact ⟨.inr rfl, .sl ((insR e _ ⟨nm, bareV v⟩).map Pr.cs), rfl, .same _ (below_E _ _)⟩
  | some i =>
    rw [hx] at hid
    have hw0 : withAt e nm = i := hwat _ hx
    rw [hw0] at hins hwd
    simp only [ixI] at hid
    have hi0 : ¬ ((i : Int) < 0) := by omega
    repeat' (first
      | refine WP.t ?_ | refine WP.k ?_ | refine WP.e ?_ | refine Qn ?_ | refine Qr ?_ | refine Qe ?_ | refine Bn ?_ | refine Br ?_ | refine Be ?_ | refine Bx (by decide) ?_
      | (refine RS.nl ?_; refine hk _ _ ?_; clear hk k)
      | ((first | refine RS.st fun A B hA hB => ?_ | refine RQ.st fun A B hA hB => ?_); simp [F9, F8, F7, F6, F5, F4c, F4b, gClone, hu, hl, V.cs, hsA, hAn, hA0, hA1, hAr, hid, hdl, hins, hub, hi0, onW_t, onW_f, onV_s]; first | ((first | refine hA _ _ _ ?_ ?_ | refine hA _ _ _ ?_ (by first | exact .inl rfl | exact .inr (by decide)) ?_); (focus (simp [F9, F8, F7, F6, F5, F4c, F4b, gClone, hu, hl, V.cs, hsA, hAn, hA0, hA1, hAr, hid, hdl, hins, hub, hi0] <;> omega)); clear hA hB A B) | (refine hB ?_; clear hA hB A B) | (refine onV_if ?_ ?_; (focus (first | omega | (refine ⟨?_, ?_⟩ <;> omega))); simp only [onV_s]; (first | refine hA _ _ _ ?_ ?_ | refine hA _ _ _ ?_ (by first | exact .inl rfl | exact .inr (by decide)) ?_); (focus (simp [F9, F8, F7, F6, F5, F4c, F4b, gClone, hu, hl, V.cs, hsA, hAn, hA0, hA1, hAr, hid, hdl, hins, hub, hi0] <;> omega)); clear hA hB A B))
      | (refine RQ.nl ?_; refine hk _ _ ?_; clear hk k)
      | refine WP.sr fun k hk => ?_ | refine WP.r fun k hk => ?_
      | refine WP.sd _ rfl fun k hk => ?_ | refine WP.d _ rfl fun k hk => ?_
      | (refine WP.cc fun A B hA hB => ?_; simp [F9, F8, F7, F6, F5, F4c, F4b, gClone, hu, hl, V.cs, hsA, hAn, hA0, hA1, hAr, hid, hdl, hins, hub, hi0, onB_t, onB_f]; first | (refine hA ?_; clear hA hB A B) | (refine hB ?_; clear hA hB A B) | (refine onB_if (fun h => hA ?_) (fun h => hB ?_) <;> clear hA hB A B))
      | refine WP.q ?_ | refine WP.b ?_)
    rw [hwd]
    exact ⟨.inr rfl, .sl ((insR e _ ⟨nm, bareV v⟩).map Pr.cs), rfl, .same _ (below_E _ _)⟩
end
end Go.Am
