/- Part of the proof: abstract values over the given model of Go (R15F, R16, R17). Conditions: none of its own; see the statement in the seat's Rows text. -/
import Derived.Test.YtkhfjjgcafkihaaGreatAmRe
set_option linter.unusedSimpArgs false
set_option linter.unusedVariables false
set_option linter.unusedSectionVars false
namespace Go.Am
open Go.Proofs
theorem nextE_rng {bd : List Str} : ∀ {b : List Lit} {d : List Bool} {i : Nat} {best most : Int}, nextE bd i b d best most = best ∨ ∃ j : Nat, nextE bd i b d best most = (j : Int) ∧ i ≤ j ∧ j < i + b.length
  | [], _, i, best, most => .inl (by simp [nextE])
  | _ :: _, [], i, best, most => .inl (by simp [nextE])
  | l :: ls, d :: ds, i, best, most => by
    simp only [nextE]
    split
    · rcases nextE_rng (b := ls) (d := ds) (i := i + 1) (best := best) (most := most) (bd := bd) with h | ⟨j, h, h1, h2⟩
      · exact .inl h
      · exact .inr ⟨j, h, by omega, by simp; omega⟩
    · split
      · exact .inr ⟨i, rfl, Nat.le_refl _, by simp⟩
      · split
        · rcases nextE_rng (b := ls) (d := ds) (i := i + 1) (best := (i : Int)) (most := ((colsE bd 0 l.atom.a).length : Int)) (bd := bd) with h | ⟨j, h, h1, h2⟩
          · exact .inr ⟨i, h, Nat.le_refl _, by simp⟩
          · exact .inr ⟨j, h, by omega, by simp; omega⟩
        · rcases nextE_rng (b := ls) (d := ds) (i := i + 1) (best := best) (most := most) (bd := bd) with h | ⟨j, h, h1, h2⟩
          · exact .inl h
          · exact .inr ⟨j, h, by omega, by simp; omega⟩
theorem nextE_lt {bd : List Str} {b : List Lit} {d : List Bool} : nextE bd 0 b d (-1) (-1) = -1 ∨ ∃ j : Nat, nextE bd 0 b d (-1) (-1) = (j : Int) ∧ j < b.length := by
  rcases nextE_rng (bd := bd) (b := b) (d := d) (i := 0) (best := -1) (most := -1) with h | ⟨j, h, h1, h2⟩
  · exact .inl h
  · exact .inr ⟨j, h, by omega⟩
/-- The place that is next, the first one given. -/
def pickE (b : List Lit) (at' : Int) (d : List Bool) (bd : List Str) (out : List Nat) : Int := if out.length = 0 ∧ at' ≠ -1 then at' else nextE bd 0 b d (-1) (-1)
def ordE (b : List Lit) (at' : Int) : Nat → List Bool → List Str → List Nat → Option (List Nat)
  | 0, _, _, out => some out
  | m + 1, d, bd, out => if pickE b at' d bd out < 0 then none else
    ordE b at' m (d.set (pickE b at' d bd out).toNat true) (match b[(pickE b at' d bd out).toNat]? with
      | some l => if l.kind = 1 then bd ++ varsE l.atom.a [] else bd
      | none => bd) (out ++ [(pickE b at' d bd out).toNat])
def kindsE (b : List Lit) : Bool := b.all fun l => !((l.kind != 1) && (l.kind != 2) && (l.kind != 3))
def atE (b : List Lit) (at' : Int) : Bool := (at' == -1) || (decide (0 ≤ at') && match b[at'.toNat]? with
  | some l => l.kind == 1
  | none => false)
def orderE (b : List Lit) (at' : Int) : Option (List Nat) × Int :=
  if kindsE b = true then (if atE b at' = true then (match ordE b at' b.length (List.replicate b.length false) [] [] with
    | some o => (some o, 0)
    | none => (none, 6)) else (none, 1)) else (none, 1)
def tupO (o : Option (List Nat) × Int) : AV := .tup [.sl ((o.1.getD []).map In1), .int .i64 o.2]
theorem kindsE_drop {b : List Lit} {i : Nat} (h : i < b.length) : kindsE (b.drop i) = (!((b[i].kind != 1) && (b[i].kind != 2) && (b[i].kind != 3)) && kindsE (b.drop (i + 1))) := by
  rw [List.drop_eq_getElem_cons h]; rfl
theorem mapset {d : List Bool} {j : Nat} : (d.map Bo1).set j [.bool true] = (d.set j true).map Bo1 := by rw [List.map_set]; rfl
def noPos (b : List Lit) : Bool := b.all fun l => !(l.kind == 1)
theorem noPos_get {b : List Lit} (h : noPos b = true) {i : Nat} (hi : i < b.length) : (b[i].kind == 1) = false := by
  have := List.all_eq_true.1 h _ (List.getElem_mem hi)
  simpa using this
section
variable {K : Nat} {gw : World} {s : St}
attribute [local simp] awanted xop zOf cz zrow aop ev T0 Slots.put Slots.set Slots.get awr WOk AV.may ofConst abinop aint isConst St.get_push St.get_put St.live AV.fit AV.cells AV.one fieldOf afieldAddr aload ofCells astore splice May eqres env_ti FinP FinZ FinW ares aresL ares1 Fns.addP Fns.add Fns.a0 Fns.a1 Fns.a2 Fns.a3 Fns.a4 abuiltin alenOk alen aindex elemOfT elemId abuildSlice afill chunks ard aappend isSS AV.isStr aminmax placesOf abuild afield aidx isStrD isStrDesc astrop aslice asliceOk abound arange anext aextract aunop aeq AV.ck avseq aveq aconv aconvert onB_t onB_f List.range_succ
noncomputable def Q22 : Fns := (Q21.addV 68 fun xs => match xs with
  | [.agg c, .sl d, .sl e] => match cRl.un c, unL cBo d, unL cSt e with
    | some r, some d, some bd => if r.body.length < MB ∧ wL r.body < MB ∧ d.length = r.body.length ∧ bd.length < LIM then some (.int .i64 (nextE bd 0 r.body d (-1) (-1))) else none
    | _, _, _ => none
  | _ => none)
theorem Q22_ok : FOk (env K gw) Q22 := Q21_ok.addV fun xs s r h => by
  split at h
  · split at h
    · rename_i h1 h2 h3
      split at h
      · rename_i hl
        cases h
        rw [cRl.cs_un _ _ h1, unL_eq cBo _ _ h2, unL_eq cSt _ _ h3]
        exact ft_RNext _ _ _ hl.1 hl.2.1 hl.2.2.1 hl.2.2.2
      · cases h
    · cases h
  · cases h
/-- Bound names, nil or a row of one's own. -/
def BdW (lo : Nat) (s2 : St) (x : AV) (bd : List Str) : Prop := (bd = [] ∧ x = .nsl) ∨ ∃ q, lo < q ∧ q < s2.nx ∧ x = .ls q 0 bd.length ∧ s2.get q = some (.row 1 (true, 9) (bd.map St1))
def OuW (lo : Nat) (s2 : St) (x : AV) (out : List Nat) : Prop := (out = [] ∧ x = .nsl) ∨ out ≠ [] ∧ ∃ q, lo < q ∧ q < s2.nx ∧ x = .ls q 0 out.length ∧ s2.get q = some (.row 1 (true, 3) (out.map In1))
theorem BdW.keep {lo : Nat} {s2 s3 : St} {x : AV} {bd : List Str} (h : BdW lo s2 x bd) (hn : s2.nx ≤ s3.nx) (hg : ∀ q, lo < q → q < s2.nx → (∃ l, s2.get q = some (.row 1 (true, 9) l)) → s3.get q = s2.get q) : BdW lo s3 x bd := by
  rcases h with h | ⟨q, h1, h2, h3, h4⟩
  · exact .inl h
  · exact .inr ⟨q, h1, by omega, h3, by rw [hg q h1 h2 ⟨_, h4⟩]; exact h4⟩
theorem Q22_next (r : Rl) (d : List Bool) (bd : List Str) (h1 : r.body.length < MB) (h2 : wL r.body < MB) (h3 : d.length = r.body.length) (h4 : bd.length < LIM) (s2 : St) (lo D n : Nat) (x : AV) (hn : n = d.length) (hD : s2.get D = some (.row 1 (true, 4) (d.map Bo1))) (hx : BdW lo s2 x bd) :
    Q22 68 [.agg r.cs, .ls D 0 n, x] s2 = some (.int .i64 (nextE bd 0 r.body d (-1) (-1)), s2, []) := by
  have u1 : cRl.un r.cs = some r := cRl.un_cs r
  have u2 := unL_Bo d
  have u3 := unL_St bd
  simp only [MB] at h1 h2
  rcases hx with ⟨rfl, rfl⟩ | ⟨q, _, _, rfl, hq⟩
  · have u4 : unL cSt [] = some [] := rfl
    have h0 : (0 : Nat) < LIM := by decide
    simp [Q22, Fns.addV, Fns.add, vw1, hD, hn, u1, u2, u4, h1, h2, h3, isScal]
  · simp [Q22, Fns.addV, Fns.add, vw1, hD, hn, hq, u1, u2, u3, h1, h2, h3, h4, isScal]
set_option maxRecDepth 20000 in
set_option maxHeartbeats 2000000 in
theorem ft_ROrder1 (r : Rl) (hb : r.body.length ≤ 1048576) (hw : wL r.body ≤ 1048576) (hnoP : noPos r.body = true) :
    FT (env K gw) NoW 41 [.agg r.cs, .int .i64 (-1)] s (tupO (orderE r.body (-1))) s := by
  obtain ⟨⟨hp, ha⟩, b⟩ := r
  simp only at hb hw hnoP
  refine FT.data (fn := Tryz.f41) Q22_ok mixed Tryz.func41 (by kernel_rfl) (by rfl) rfl rfl (by simp) rfl fun μ w => ?_
  repeat' (first
    | refine WP.t ?_ | refine WP.k ?_ | refine WP.e ?_ | refine Qn ?_ | refine Qr ?_ | refine Qe ?_ | refine Bn ?_ | refine Br ?_ | refine Be ?_ | refine Bx (by decide) ?_
    | (refine RS.nl ?_; refine hk _ _ ?_; clear hk k)
    | ((first | refine RS.st fun A B hA hB => ?_ | refine RQ.st fun A B hA hB => ?_); simp [Rl.cs, onW_t, onW_f, onV_s]; first | ((first | refine hA _ _ _ ?_ ?_ | refine hA _ _ _ ?_ (by first | exact .inl rfl | exact .inr (by decide)) ?_); (focus (simp [Rl.cs] <;> omega)); clear hA hB A B) | (refine hB ?_; clear hA hB A B) | (refine onV_if ?_ ?_; (focus (first | omega | (refine ⟨?_, ?_⟩ <;> omega))); simp only [onV_s]; (first | refine hA _ _ _ ?_ ?_ | refine hA _ _ _ ?_ (by first | exact .inl rfl | exact .inr (by decide)) ?_); (focus (simp [Rl.cs] <;> omega)); clear hA hB A B))
    | (refine RQ.nl ?_; refine hk _ _ ?_; clear hk k)
    | refine WP.sr fun k hk => ?_ | refine WP.r fun k hk => ?_
    | refine WP.sd _ rfl fun k hk => ?_ | refine WP.d _ rfl fun k hk => ?_
    | (refine WP.cc fun A B hA hB => ?_; simp [Rl.cs, onB_t, onB_f]; first | (refine hA ?_; clear hA hB A B) | (refine hB ?_; clear hA hB A B) | (refine onB_if (fun h => hA ?_) (fun h => hB ?_) <;> clear hA hB A B))
    | refine WP.q ?_ | refine WP.b ?_)
  refine WP_loop (fun n T s' => ∃ (i : Nat), n + i = b.length ∧ s' = s.push (.var 40 [.str hp, .sl (ha.map Tm.cs), .sl (b.map Lit.cs)]) ∧ T.get 1 = .int .i64 (-1) ∧ T.get 2 = .ptr s.nx 0 ∧ T.get 6 = .int .i64 b.length ∧ T.get 7 = .int .i64 i ∧ kindsE b = kindsE (b.drop i)) b.length
    ⟨0, by simp, by simp, by simp, by simp, by simp, by simp, by simp⟩ ?_
  rintro n T s' ⟨i, hn, hs', h1, h2, h6, h7, hkd⟩
  have hs0 : s'.get s.nx = some (.var 40 [.str hp, .sl (ha.map Tm.cs), .sl (b.map Lit.cs)]) := by rw [hs']; simp [St.get_push]
  have hnx : s'.nx = s.nx + 1 := by rw [hs']; simp
  by_cases hi : i < b.length
  · have hwi : IntKind.i64.wrap ((i : Int) + 1) = (i : Int) + 1 := wrap64 (by omega) (by omega)
    have hlt : ((i : Int) < (b.length : Int)) := by omega
    have hbi : b[i]? = some b[i] := List.getElem?_eq_getElem hi
    have hmd := hkd.trans (kindsE_drop hi)
    generalize hl : b[i] = l at *
    have hlcs : l.cs = [.int .i64 l.kind, .str l.atom.p, .sl (l.atom.a.map Tm.cs), .str l.op, .bool l.l.b, .str l.l.k, .bool l.l.v.b, .str l.l.v.s, .int .i64 l.l.v.n, .bool l.r.b, .str l.r.k, .bool l.r.v.b, .str l.r.v.s, .int .i64 l.r.v.n] := rfl
    cases hk1 : (l.kind != 1) with
    | false =>
      rw [hk1] at hmd
      repeat' (first
        | refine WP.t ?_ | refine WP.k ?_ | refine WP.e ?_ | refine Qn ?_ | refine Qr ?_ | refine Qe ?_ | refine Bn ?_ | refine Br ?_ | refine Be ?_ | refine Bx (by decide) ?_
        | (refine RS.nl ?_; refine hk _ _ ?_; clear hk k)
        | ((first | refine RS.st fun A B hA hB => ?_ | refine RQ.st fun A B hA hB => ?_); simp [h1, h2, h6, h7, hs0, hnx, hlt, hi, hbi, hl, hwi, hlcs, hk1, onW_t, onW_f, onV_s]; first | ((first | refine hA _ _ _ ?_ ?_ | refine hA _ _ _ ?_ (by first | exact .inl rfl | exact .inr (by decide)) ?_); (focus (simp [h1, h2, h6, h7, hs0, hnx, hlt, hi, hbi, hl, hwi, hlcs, hk1] <;> omega)); clear hA hB A B) | (refine hB ?_; clear hA hB A B) | (refine onV_if ?_ ?_; (focus (first | omega | (refine ⟨?_, ?_⟩ <;> omega))); simp only [onV_s]; (first | refine hA _ _ _ ?_ ?_ | refine hA _ _ _ ?_ (by first | exact .inl rfl | exact .inr (by decide)) ?_); (focus (simp [h1, h2, h6, h7, hs0, hnx, hlt, hi, hbi, hl, hwi, hlcs, hk1] <;> omega)); clear hA hB A B))
        | (refine RQ.nl ?_; refine hk _ _ ?_; clear hk k)
        | refine WP.sr fun k hk => ?_ | refine WP.r fun k hk => ?_
        | refine WP.sd _ rfl fun k hk => ?_ | refine WP.d _ rfl fun k hk => ?_
        | (refine WP.cc fun A B hA hB => ?_; simp [h1, h2, h6, h7, hs0, hnx, hlt, hi, hbi, hl, hwi, hlcs, hk1, onB_t, onB_f]; first | (refine hA ?_; clear hA hB A B) | (refine hB ?_; clear hA hB A B) | (refine onB_if (fun h => hA ?_) (fun h => hB ?_) <;> clear hA hB A B))
        | refine WP.q ?_ | refine WP.b ?_)
      exact ⟨n - 1, by omega, i + 1, by omega, hs', by simp [h1], by simp [h2], by simp [h6], by simp, by rw [hmd]; simp⟩
    | true =>
      cases hk2 : (l.kind != 2) with
      | false =>
        rw [hk1, hk2] at hmd
        repeat' (first
          | refine WP.t ?_ | refine WP.k ?_ | refine WP.e ?_ | refine Qn ?_ | refine Qr ?_ | refine Qe ?_ | refine Bn ?_ | refine Br ?_ | refine Be ?_ | refine Bx (by decide) ?_
          | (refine RS.nl ?_; refine hk _ _ ?_; clear hk k)
          | ((first | refine RS.st fun A B hA hB => ?_ | refine RQ.st fun A B hA hB => ?_); simp [h1, h2, h6, h7, hs0, hnx, hlt, hi, hbi, hl, hwi, hlcs, hk1, hk2, onW_t, onW_f, onV_s]; first | ((first | refine hA _ _ _ ?_ ?_ | refine hA _ _ _ ?_ (by first | exact .inl rfl | exact .inr (by decide)) ?_); (focus (simp [h1, h2, h6, h7, hs0, hnx, hlt, hi, hbi, hl, hwi, hlcs, hk1, hk2] <;> omega)); clear hA hB A B) | (refine hB ?_; clear hA hB A B) | (refine onV_if ?_ ?_; (focus (first | omega | (refine ⟨?_, ?_⟩ <;> omega))); simp only [onV_s]; (first | refine hA _ _ _ ?_ ?_ | refine hA _ _ _ ?_ (by first | exact .inl rfl | exact .inr (by decide)) ?_); (focus (simp [h1, h2, h6, h7, hs0, hnx, hlt, hi, hbi, hl, hwi, hlcs, hk1, hk2] <;> omega)); clear hA hB A B))
          | (refine RQ.nl ?_; refine hk _ _ ?_; clear hk k)
          | refine WP.sr fun k hk => ?_ | refine WP.r fun k hk => ?_
          | refine WP.sd _ rfl fun k hk => ?_ | refine WP.d _ rfl fun k hk => ?_
          | (refine WP.cc fun A B hA hB => ?_; simp [h1, h2, h6, h7, hs0, hnx, hlt, hi, hbi, hl, hwi, hlcs, hk1, hk2, onB_t, onB_f]; first | (refine hA ?_; clear hA hB A B) | (refine hB ?_; clear hA hB A B) | (refine onB_if (fun h => hA ?_) (fun h => hB ?_) <;> clear hA hB A B))
          | refine WP.q ?_ | refine WP.b ?_)
        exact ⟨n - 1, by omega, i + 1, by omega, hs', by simp [h1], by simp [h2], by simp [h6], by simp, by rw [hmd]; simp⟩
      | true =>
        cases hk3 : (l.kind != 3) with
        | false =>
          rw [hk1, hk2, hk3] at hmd
          repeat' (first
            | refine WP.t ?_ | refine WP.k ?_ | refine WP.e ?_ | refine Qn ?_ | refine Qr ?_ | refine Qe ?_ | refine Bn ?_ | refine Br ?_ | refine Be ?_ | refine Bx (by decide) ?_
            | (refine RS.nl ?_; refine hk _ _ ?_; clear hk k)
            | ((first | refine RS.st fun A B hA hB => ?_ | refine RQ.st fun A B hA hB => ?_); simp [h1, h2, h6, h7, hs0, hnx, hlt, hi, hbi, hl, hwi, hlcs, hk1, hk2, hk3, onW_t, onW_f, onV_s]; first | ((first | refine hA _ _ _ ?_ ?_ | refine hA _ _ _ ?_ (by first | exact .inl rfl | exact .inr (by decide)) ?_); (focus (simp [h1, h2, h6, h7, hs0, hnx, hlt, hi, hbi, hl, hwi, hlcs, hk1, hk2, hk3] <;> omega)); clear hA hB A B) | (refine hB ?_; clear hA hB A B) | (refine onV_if ?_ ?_; (focus (first | omega | (refine ⟨?_, ?_⟩ <;> omega))); simp only [onV_s]; (first | refine hA _ _ _ ?_ ?_ | refine hA _ _ _ ?_ (by first | exact .inl rfl | exact .inr (by decide)) ?_); (focus (simp [h1, h2, h6, h7, hs0, hnx, hlt, hi, hbi, hl, hwi, hlcs, hk1, hk2, hk3] <;> omega)); clear hA hB A B))
            | (refine RQ.nl ?_; refine hk _ _ ?_; clear hk k)
            | refine WP.sr fun k hk => ?_ | refine WP.r fun k hk => ?_
            | refine WP.sd _ rfl fun k hk => ?_ | refine WP.d _ rfl fun k hk => ?_
            | (refine WP.cc fun A B hA hB => ?_; simp [h1, h2, h6, h7, hs0, hnx, hlt, hi, hbi, hl, hwi, hlcs, hk1, hk2, hk3, onB_t, onB_f]; first | (refine hA ?_; clear hA hB A B) | (refine hB ?_; clear hA hB A B) | (refine onB_if (fun h => hA ?_) (fun h => hB ?_) <;> clear hA hB A B))
            | refine WP.q ?_ | refine WP.b ?_)
          exact ⟨n - 1, by omega, i + 1, by omega, hs', by simp [h1], by simp [h2], by simp [h6], by simp, by rw [hmd]; simp⟩
        | true =>
          rw [hk1, hk2, hk3] at hmd
          have hoe : orderE b (-1) = (none, 1) := by unfold orderE; rw [hmd]; rfl
          rw [hoe]
          repeat' (first
            | refine WP.t ?_ | refine WP.k ?_ | refine WP.e ?_ | refine Qn ?_ | refine Qr ?_ | refine Qe ?_ | refine Bn ?_ | refine Br ?_ | refine Be ?_ | refine Bx (by decide) ?_
            | (refine RS.nl ?_; refine hk _ _ ?_; clear hk k)
            | ((first | refine RS.st fun A B hA hB => ?_ | refine RQ.st fun A B hA hB => ?_); simp [h1, h2, h6, h7, hs0, hnx, hlt, hi, hbi, hl, hwi, hlcs, hk1, hk2, hk3, onW_t, onW_f, onV_s]; first | ((first | refine hA _ _ _ ?_ ?_ | refine hA _ _ _ ?_ (by first | exact .inl rfl | exact .inr (by decide)) ?_); (focus (simp [h1, h2, h6, h7, hs0, hnx, hlt, hi, hbi, hl, hwi, hlcs, hk1, hk2, hk3] <;> omega)); clear hA hB A B) | (refine hB ?_; clear hA hB A B) | (refine onV_if ?_ ?_; (focus (first | omega | (refine ⟨?_, ?_⟩ <;> omega))); simp only [onV_s]; (first | refine hA _ _ _ ?_ ?_ | refine hA _ _ _ ?_ (by first | exact .inl rfl | exact .inr (by decide)) ?_); (focus (simp [h1, h2, h6, h7, hs0, hnx, hlt, hi, hbi, hl, hwi, hlcs, hk1, hk2, hk3] <;> omega)); clear hA hB A B))
            | (refine RQ.nl ?_; refine hk _ _ ?_; clear hk k)
            | refine WP.sr fun k hk => ?_ | refine WP.r fun k hk => ?_
            | refine WP.sd _ rfl fun k hk => ?_ | refine WP.d _ rfl fun k hk => ?_
            | (refine WP.cc fun A B hA hB => ?_; simp [h1, h2, h6, h7, hs0, hnx, hlt, hi, hbi, hl, hwi, hlcs, hk1, hk2, hk3, onB_t, onB_f]; first | (refine hA ?_; clear hA hB A B) | (refine hB ?_; clear hA hB A B) | (refine onB_if (fun h => hA ?_) (fun h => hB ?_) <;> clear hA hB A B))
            | refine WP.q ?_ | refine WP.b ?_)
          exact ⟨.inr rfl, .tup [.nsl, .int .i64 1], by simp, frz_tup2 .nil (.same _ (by simp))⟩
  · have hlt : ¬ ((i : Int) < (b.length : Int)) := by omega
    have hkt : kindsE b = true := by rw [hkd, List.drop_eq_nil_of_le (by omega)]; rfl
    have hkt2 : orderE b (-1) = match ordE b (-1) b.length (List.replicate b.length false) [] [] with
        | some o => (some o, 0)
        | none => (none, 6) := by unfold orderE; rw [if_pos hkt]; rfl
    have hby : (b.length : Int) ≤ 140737488355328 := by omega
    repeat' (first
      | refine WP.t ?_ | refine WP.k ?_ | refine WP.e ?_ | refine Qn ?_ | refine Qr ?_ | refine Qe ?_ | refine Bn ?_ | refine Br ?_ | refine Be ?_ | refine Bx (by decide) ?_
      | (refine RS.nl ?_; refine hk _ _ ?_; clear hk k)
      | ((first | refine RS.st fun A B hA hB => ?_ | refine RQ.st fun A B hA hB => ?_); simp [h1, h2, h6, h7, hs0, hnx, hlt, hby, amake, onW_t, onW_f, onV_s]; first | ((first | refine hA _ _ _ ?_ ?_ | refine hA _ _ _ ?_ (by first | exact .inl rfl | exact .inr (by decide)) ?_); (focus (simp [h1, h2, h6, h7, hs0, hnx, hlt, hby, amake] <;> omega)); clear hA hB A B) | (refine hB ?_; clear hA hB A B) | (refine onV_if ?_ ?_; (focus (first | omega | (refine ⟨?_, ?_⟩ <;> omega))); simp only [onV_s]; (first | refine hA _ _ _ ?_ ?_ | refine hA _ _ _ ?_ (by first | exact .inl rfl | exact .inr (by decide)) ?_); (focus (simp [h1, h2, h6, h7, hs0, hnx, hlt, hby, amake] <;> omega)); clear hA hB A B))
      | (refine RQ.nl ?_; refine hk _ _ ?_; clear hk k)
      | refine WP.sr fun k hk => ?_ | refine WP.r fun k hk => ?_
      | refine WP.sd _ rfl fun k hk => ?_ | refine WP.d _ rfl fun k hk => ?_
      | (refine WP.cc fun A B hA hB => ?_; simp [h1, h2, h6, h7, hs0, hnx, hlt, hby, amake, onB_t, onB_f]; first | (refine hA ?_; clear hA hB A B) | (refine hB ?_; clear hA hB A B) | (refine onB_if (fun h => hA ?_) (fun h => hB ?_) <;> clear hA hB A B))
      | refine WP.q ?_ | refine WP.b ?_)
    refine WP_loop (fun m T s' => ∃ (d : List Bool) (bd : List Str) (out : List Nat), m + out.length = b.length ∧ d.length = b.length ∧ T.get 1 = .int .i64 (-1) ∧ T.get 2 = .ptr s.nx 0 ∧ T.get 6 = .int .i64 b.length ∧ T.get 8 = .ls (s.nx + 1) 0 b.length ∧
      s'.get s.nx = some (.var 40 [.str hp, .sl (ha.map Tm.cs), .sl (b.map Lit.cs)]) ∧ s'.get (s.nx + 1) = some (.row 1 (true, 4) (d.map Bo1)) ∧ s.nx + 1 < s'.nx ∧ BdW (s.nx + 1) s' (T.get 9) bd ∧ OuW (s.nx + 1) s' (T.get 10) out ∧ bd.length ≤ out.length * 1048576 ∧
      ordE b (-1) b.length (List.replicate b.length false) [] [] = ordE b (-1) m d bd out) b.length
      ⟨List.replicate b.length false, [], [], by simp, by simp, by simp [h1], by simp [h2], by simp [h6], by simp [hnx], by simp [St.get_push, hnx, hs0], by simp [St.get_push, hnx, Bo1], by simp [hnx], .inl ⟨rfl, by simp⟩, .inl ⟨rfl, by simp⟩, by simp, rfl⟩ ?_
    clear hi hlt h1 h2 h6 h7 hs0 hnx hkd hn hby hs'
    rintro m T2 s2 ⟨d, bd, out, hmo, hdl, h1, h2, h6, h8, g0, g1, hnx, hBd, hOu, hbl, hord⟩
    have n0 : ¬ s.nx = s2.nx := by omega
    have n1 : ¬ s.nx + 1 = s2.nx := by omega
    have n2 : ¬ s.nx = s2.nx + 1 := by omega
    have n3 : ¬ s.nx + 1 = s2.nx + 1 := by omega
    have n4 : s.nx < s2.nx := by omega
    have n5 : ¬ s.nx = s.nx + 1 := by omega
    have hQn := Q22_next ⟨⟨hp, ha⟩, b⟩ d bd (by simp only [MB]; omega) (by simp only [MB]; omega) hdl (by simp only [LIM]; omega) s2 (s.nx + 1) (s.nx + 1) b.length (T2.get 9) hdl.symm g1 hBd
    simp only [Rl.cs] at hQn
    generalize h9 : T2.get 9 = x9 at *
    by_cases hfull : out.length = b.length
    · have hlt : ¬ ((out.length : Int) < (b.length : Int)) := by omega
      obtain rfl : m = 0 := by omega
      have hoe : orderE b (-1) = (some out, 0) := by rw [hkt2, hord]; rfl
      rw [hoe]
      rcases hOu with ⟨rfl, h10⟩ | ⟨hon0, q2, o1, o2, h10, hq2⟩
      · have hlt' : ¬ ((0 : Int) < (b.length : Int)) := by simpa using hlt
        have hb0 : b.length = 0 := by simpa using hfull.symm
        repeat' (first
          | refine WP.t ?_ | refine WP.k ?_ | refine WP.e ?_ | refine Qn ?_ | refine Qr ?_ | refine Qe ?_ | refine Bn ?_ | refine Br ?_ | refine Be ?_ | refine Bx (by decide) ?_
          | (refine RS.nl ?_; refine hk _ _ ?_; clear hk k)
          | ((first | refine RS.st fun A B hA hB => ?_ | refine RQ.st fun A B hA hB => ?_); simp [h1, h2, h6, h8, h10, g0, g1, hlt', hb0, onW_t, onW_f, onV_s]; first | ((first | refine hA _ _ _ ?_ ?_ | refine hA _ _ _ ?_ (by first | exact .inl rfl | exact .inr (by decide)) ?_); (focus (simp [h1, h2, h6, h8, h10, g0, g1, hlt', hb0] <;> omega)); clear hA hB A B) | (refine hB ?_; clear hA hB A B) | (refine onV_if ?_ ?_; (focus (first | omega | (refine ⟨?_, ?_⟩ <;> omega))); simp only [onV_s]; (first | refine hA _ _ _ ?_ ?_ | refine hA _ _ _ ?_ (by first | exact .inl rfl | exact .inr (by decide)) ?_); (focus (simp [h1, h2, h6, h8, h10, g0, g1, hlt', hb0] <;> omega)); clear hA hB A B))
          | (refine RQ.nl ?_; refine hk _ _ ?_; clear hk k)
          | refine WP.sr fun k hk => ?_ | refine WP.r fun k hk => ?_
          | refine WP.sd _ rfl fun k hk => ?_ | refine WP.d _ rfl fun k hk => ?_
          | (refine WP.cc fun A B hA hB => ?_; simp [h1, h2, h6, h8, h10, g0, g1, hlt', hb0, onB_t, onB_f]; first | (refine hA ?_; clear hA hB A B) | (refine hB ?_; clear hA hB A B) | (refine onB_if (fun h => hA ?_) (fun h => hB ?_) <;> clear hA hB A B))
          | refine WP.q ?_ | refine WP.b ?_)
        exact ⟨.inr rfl, .tup [.nsl, .int .i64 0], by simp [h10], frz_tup2 .nil (.same _ (by simp))⟩
      · skip
        repeat' (first
          | refine WP.t ?_ | refine WP.k ?_ | refine WP.e ?_ | refine Qn ?_ | refine Qr ?_ | refine Qe ?_ | refine Bn ?_ | refine Br ?_ | refine Be ?_ | refine Bx (by decide) ?_
          | (refine RS.nl ?_; refine hk _ _ ?_; clear hk k)
          | ((first | refine RS.st fun A B hA hB => ?_ | refine RQ.st fun A B hA hB => ?_); simp [h1, h2, h6, h8, h10, g0, g1, hlt, hq2, onW_t, onW_f, onV_s]; first | ((first | refine hA _ _ _ ?_ ?_ | refine hA _ _ _ ?_ (by first | exact .inl rfl | exact .inr (by decide)) ?_); (focus (simp [h1, h2, h6, h8, h10, g0, g1, hlt, hq2] <;> omega)); clear hA hB A B) | (refine hB ?_; clear hA hB A B) | (refine onV_if ?_ ?_; (focus (first | omega | (refine ⟨?_, ?_⟩ <;> omega))); simp only [onV_s]; (first | refine hA _ _ _ ?_ ?_ | refine hA _ _ _ ?_ (by first | exact .inl rfl | exact .inr (by decide)) ?_); (focus (simp [h1, h2, h6, h8, h10, g0, g1, hlt, hq2] <;> omega)); clear hA hB A B))
          | (refine RQ.nl ?_; refine hk _ _ ?_; clear hk k)
          | refine WP.sr fun k hk => ?_ | refine WP.r fun k hk => ?_
          | refine WP.sd _ rfl fun k hk => ?_ | refine WP.d _ rfl fun k hk => ?_
          | (refine WP.cc fun A B hA hB => ?_; simp [h1, h2, h6, h8, h10, g0, g1, hlt, hq2, onB_t, onB_f]; first | (refine hA ?_; clear hA hB A B) | (refine hB ?_; clear hA hB A B) | (refine onB_if (fun h => hA ?_) (fun h => hB ?_) <;> clear hA hB A B))
          | refine WP.q ?_ | refine WP.b ?_)
        exact ⟨.inr rfl, .tup [.ls q2 0 out.length, .int .i64 0], by simp [h10], frz_tup2 (frz_sl cIn hq2 (by omega) rfl) (.same _ (by simp))⟩
    · have hlt : ((out.length : Int) < (b.length : Int)) := by omega
      obtain ⟨m', rfl⟩ : ∃ m', m = m' + 1 := ⟨m - 1, by omega⟩
      have hpk : pickE b (-1) d bd out = nextE bd 0 b d (-1) (-1) := by unfold pickE; rw [if_neg (by simp)]
      rcases nextE_lt (bd := bd) (b := b) (d := d) with hne | ⟨j, hne, hjl⟩
      · have hon : ordE b (-1) (m' + 1) d bd out = none := by unfold ordE; rw [hpk, hne]; rfl
        have hoe : orderE b (-1) = (none, 6) := by rw [hkt2, hord, hon]
        rw [hoe]
        rw [hne] at hQn
        rcases hOu with ⟨rfl, h10⟩ | ⟨hon0, q2, o1, o2, h10, hq2⟩
        · have hlt' : 0 < b.length := by omega
          repeat' (first
            | refine WP.t ?_ | refine WP.k ?_ | refine WP.e ?_ | refine Qn ?_ | refine Qr ?_ | refine Qe ?_ | refine Bn ?_ | refine Br ?_ | refine Be ?_ | refine Bx (by decide) ?_
            | (refine RS.nl ?_; refine hk _ _ ?_; clear hk k)
            | ((first | refine RS.st fun A B hA hB => ?_ | refine RQ.st fun A B hA hB => ?_); simp [h1, h2, h6, h8, h9, h10, g0, g1, hlt', hQn, n4, onW_t, onW_f, onV_s]; first | ((first | refine hA _ _ _ ?_ ?_ | refine hA _ _ _ ?_ (by first | exact .inl rfl | exact .inr (by decide)) ?_); (focus (simp [h1, h2, h6, h8, h9, h10, g0, g1, hlt', hQn, n4] <;> omega)); clear hA hB A B) | (refine hB ?_; clear hA hB A B) | (refine onV_if ?_ ?_; (focus (first | omega | (refine ⟨?_, ?_⟩ <;> omega))); simp only [onV_s]; (first | refine hA _ _ _ ?_ ?_ | refine hA _ _ _ ?_ (by first | exact .inl rfl | exact .inr (by decide)) ?_); (focus (simp [h1, h2, h6, h8, h9, h10, g0, g1, hlt', hQn, n4] <;> omega)); clear hA hB A B))
            | (refine RQ.nl ?_; refine hk _ _ ?_; clear hk k)
            | refine WP.sr fun k hk => ?_ | refine WP.r fun k hk => ?_
            | refine WP.sd _ rfl fun k hk => ?_ | refine WP.d _ rfl fun k hk => ?_
            | (refine WP.cc fun A B hA hB => ?_; simp [h1, h2, h6, h8, h9, h10, g0, g1, hlt', hQn, n4, onB_t, onB_f]; first | (refine hA ?_; clear hA hB A B) | (refine hB ?_; clear hA hB A B) | (refine onB_if (fun h => hA ?_) (fun h => hB ?_) <;> clear hA hB A B))
            | refine WP.q ?_ | refine WP.b ?_)
          exact ⟨.inr rfl, .tup [.nsl, .int .i64 6], by simp, frz_tup2 .nil (.same _ (by simp))⟩
        · have hol : ((out.length : Int) == 0) = false := by rw [beq_eq_false_iff_ne]; intro e; exact hon0 (List.eq_nil_of_length_eq_zero (by omega))
          repeat' (first
            | refine WP.t ?_ | refine WP.k ?_ | refine WP.e ?_ | refine Qn ?_ | refine Qr ?_ | refine Qe ?_ | refine Bn ?_ | refine Br ?_ | refine Be ?_ | refine Bx (by decide) ?_
            | (refine RS.nl ?_; refine hk _ _ ?_; clear hk k)
            | ((first | refine RS.st fun A B hA hB => ?_ | refine RQ.st fun A B hA hB => ?_); simp [h1, h2, h6, h8, h9, h10, g0, g1, hlt, hQn, hq2, n4, hol, onW_t, onW_f, onV_s]; first | ((first | refine hA _ _ _ ?_ ?_ | refine hA _ _ _ ?_ (by first | exact .inl rfl | exact .inr (by decide)) ?_); (focus (simp [h1, h2, h6, h8, h9, h10, g0, g1, hlt, hQn, hq2, n4, hol] <;> omega)); clear hA hB A B) | (refine hB ?_; clear hA hB A B) | (refine onV_if ?_ ?_; (focus (first | omega | (refine ⟨?_, ?_⟩ <;> omega))); simp only [onV_s]; (first | refine hA _ _ _ ?_ ?_ | refine hA _ _ _ ?_ (by first | exact .inl rfl | exact .inr (by decide)) ?_); (focus (simp [h1, h2, h6, h8, h9, h10, g0, g1, hlt, hQn, hq2, n4, hol] <;> omega)); clear hA hB A B))
            | (refine RQ.nl ?_; refine hk _ _ ?_; clear hk k)
            | refine WP.sr fun k hk => ?_ | refine WP.r fun k hk => ?_
            | refine WP.sd _ rfl fun k hk => ?_ | refine WP.d _ rfl fun k hk => ?_
            | (refine WP.cc fun A B hA hB => ?_; simp [h1, h2, h6, h8, h9, h10, g0, g1, hlt, hQn, hq2, n4, hol, onB_t, onB_f]; first | (refine hA ?_; clear hA hB A B) | (refine hB ?_; clear hA hB A B) | (refine onB_if (fun h => hA ?_) (fun h => hB ?_) <;> clear hA hB A B))
            | refine WP.q ?_ | refine WP.b ?_)
          exact ⟨.inr rfl, .tup [.nsl, .int .i64 6], by simp, frz_tup2 .nil (.same _ (by simp))⟩
      · rw [hne] at hQn hpk
        have hji : ((j : Int) < (b.length : Int)) := by omega
        have hjn : ¬ ((j : Int) < 0) := by omega
        have hjd : j < d.length := by omega
        have hdj : d[j]? = some d[j] := List.getElem?_eq_getElem hjd
        have hbj : b[j]? = some b[j] := List.getElem?_eq_getElem hjl
        have hla := wL_mem (List.getElem_mem hjl)
        have hstep : ordE b (-1) (m' + 1) d bd out = ordE b (-1) m' (d.set j true) (if b[j].kind = 1 then bd ++ varsE b[j].atom.a [] else bd) (out ++ [j]) := by
          have : ordE b (-1) (m' + 1) d bd out = if pickE b (-1) d bd out < 0 then none else ordE b (-1) m' (d.set (pickE b (-1) d bd out).toNat true) (match b[(pickE b (-1) d bd out).toNat]? with
            | some l => if l.kind = 1 then bd ++ varsE l.atom.a [] else bd
            | none => bd) (out ++ [(pickE b (-1) d bd out).toNat]) := rfl
          rw [this, hpk, if_neg hjn, Int.toNat_natCast, hbj]
        generalize hbl' : b[j] = l at *
        generalize d[j] = dv at *
        have hlcs : l.cs = [.int .i64 l.kind, .str l.atom.p, .sl (l.atom.a.map Tm.cs), .str l.op, .bool l.l.b, .str l.l.k, .bool l.l.v.b, .str l.l.v.s, .int .i64 l.l.v.n, .bool l.r.b, .str l.r.k, .bool l.r.v.b, .str l.r.v.s, .int .i64 l.r.v.n] := rfl
        have hkd : ¬ l.kind = 1 := by have := noPos_get hnoP hjl; rw [hbl'] at this; simpa using this
        have hkb : (l.kind == 1) = false := by simp [hkd]
        rw [if_neg hkd] at hstep
        rcases hOu with ⟨rfl, h10⟩ | ⟨hon0, q2, o1, o2, h10, hq2⟩
        · have hlt : 0 < b.length := by omega
          repeat' (first
            | refine WP.t ?_ | refine WP.k ?_ | refine WP.e ?_ | refine Qn ?_ | refine Qr ?_ | refine Qe ?_ | refine Bn ?_ | refine Br ?_ | refine Be ?_ | refine Bx (by decide) ?_
            | (refine RS.nl ?_; refine hk _ _ ?_; clear hk k)
            | ((first | refine RS.st fun A B hA hB => ?_ | refine RQ.st fun A B hA hB => ?_); simp [h1, h2, h6, h8, h9, g0, g1, hnx, n0, n1, n2, n3, n4, n5, hlt, hQn, hjn, hji, hjl, hdj, hdl, hbj, hbl', hlcs, Bo1, h10, hkb, St.get_drop, onW_t, onW_f, onV_s]; first | ((first | refine hA _ _ _ ?_ ?_ | refine hA _ _ _ ?_ (by first | exact .inl rfl | exact .inr (by decide)) ?_); (focus (simp [h1, h2, h6, h8, h9, g0, g1, hnx, n0, n1, n2, n3, n4, n5, hlt, hQn, hjn, hji, hjl, hdj, hdl, hbj, hbl', hlcs, Bo1, h10, hkb, St.get_drop] <;> omega)); clear hA hB A B) | (refine hB ?_; clear hA hB A B) | (refine onV_if ?_ ?_; (focus (first | omega | (refine ⟨?_, ?_⟩ <;> omega))); simp only [onV_s]; (first | refine hA _ _ _ ?_ ?_ | refine hA _ _ _ ?_ (by first | exact .inl rfl | exact .inr (by decide)) ?_); (focus (simp [h1, h2, h6, h8, h9, g0, g1, hnx, n0, n1, n2, n3, n4, n5, hlt, hQn, hjn, hji, hjl, hdj, hdl, hbj, hbl', hlcs, Bo1, h10, hkb, St.get_drop] <;> omega)); clear hA hB A B))
            | (refine RQ.nl ?_; refine hk _ _ ?_; clear hk k)
            | refine WP.sr fun k hk => ?_ | refine WP.r fun k hk => ?_
            | refine WP.sd _ rfl fun k hk => ?_ | refine WP.d _ rfl fun k hk => ?_
            | (refine WP.cc fun A B hA hB => ?_; simp [h1, h2, h6, h8, h9, g0, g1, hnx, n0, n1, n2, n3, n4, n5, hlt, hQn, hjn, hji, hjl, hdj, hdl, hbj, hbl', hlcs, Bo1, h10, hkb, St.get_drop, onB_t, onB_f]; first | (refine hA ?_; clear hA hB A B) | (refine hB ?_; clear hA hB A B) | (refine onB_if (fun h => hA ?_) (fun h => hB ?_) <;> clear hA hB A B))
            | refine WP.q ?_ | refine WP.b ?_)
          refine ⟨m', by omega, d.set j true, bd, [j], by simp at hmo ⊢; omega, by simp [hdl], by simp [h1], by simp [h2], by simp [h6], by simp [h8], by simp [St.get_push, St.get_put, St.get_drop, n0, n1, n2, n3, n4, n5, g0], by simp [St.get_push, St.get_put, St.get_drop, n0, n1, n2, n3, n4, n5, ← mapset, Bo1], by simp; omega, ?_, ?_, ?_, hord.trans hstep⟩
          · have hT : ∀ x, x = x9 → BdW (s.nx + 1) s2 x bd := fun x hx => by rw [hx]; exact hBd
            refine BdW.keep (s2 := s2) (hT _ (by simp [h9])) (by simp <;> omega) fun z hz1 hz2 hz3 => ?_
            have y1 : ¬ z = s.nx + 1 := by omega
            have y2 : ¬ z = s2.nx := by omega
            simp [St.get_push, St.get_put, St.get_drop, y1, y2]
          · exact .inr ⟨by simp, s2.nx, by omega, by simp, by simp, by simp [St.get_push, St.get_put, St.get_drop, n0, n1, n2, n3, n4, n5, In1]⟩
          · simp only [List.length_cons, List.length_nil, List.length_append] at *; omega
        · have hol : ((out.length : Int) == 0) = false := by rw [beq_eq_false_iff_ne]; intro e; exact hon0 (List.eq_nil_of_length_eq_zero (by omega))
          have e0 : ¬ q2 = s2.nx := by omega
          have e1 : ¬ q2 = s.nx + 1 := by omega
          have e2 : ¬ s.nx = q2 := by omega
          have e3 : ¬ s.nx + 1 = q2 := by omega
          have e4 : q2 < s2.nx + 1 := by omega
          have htl : List.take out.length (out.map In1) = out.map In1 := List.take_of_length_le (by simp)
          have hby : (out.length + 1) * 8 ≤ 140737488355328 := big8 (by omega)
          repeat' (first
            | refine WP.t ?_ | refine WP.k ?_ | refine WP.e ?_ | refine Qn ?_ | refine Qr ?_ | refine Qe ?_ | refine Bn ?_ | refine Br ?_ | refine Be ?_ | refine Bx (by decide) ?_
            | (refine RS.nl ?_; refine hk _ _ ?_; clear hk k)
            | ((first | refine RS.st fun A B hA hB => ?_ | refine RQ.st fun A B hA hB => ?_); simp [h1, h2, h6, h8, h9, g0, g1, hnx, n0, n1, n2, n3, n4, n5, hlt, hQn, hjn, hji, hjl, hdj, hdl, hbj, hbl', hlcs, Bo1, h10, hol, hq2, e0, e1, e2, e3, e4, htl, hby, hkb, St.get_drop, onW_t, onW_f, onV_s]; first | ((first | refine hA _ _ _ ?_ ?_ | refine hA _ _ _ ?_ (by first | exact .inl rfl | exact .inr (by decide)) ?_); (focus (simp [h1, h2, h6, h8, h9, g0, g1, hnx, n0, n1, n2, n3, n4, n5, hlt, hQn, hjn, hji, hjl, hdj, hdl, hbj, hbl', hlcs, Bo1, h10, hol, hq2, e0, e1, e2, e3, e4, htl, hby, hkb, St.get_drop] <;> omega)); clear hA hB A B) | (refine hB ?_; clear hA hB A B) | (refine onV_if ?_ ?_; (focus (first | omega | (refine ⟨?_, ?_⟩ <;> omega))); simp only [onV_s]; (first | refine hA _ _ _ ?_ ?_ | refine hA _ _ _ ?_ (by first | exact .inl rfl | exact .inr (by decide)) ?_); (focus (simp [h1, h2, h6, h8, h9, g0, g1, hnx, n0, n1, n2, n3, n4, n5, hlt, hQn, hjn, hji, hjl, hdj, hdl, hbj, hbl', hlcs, Bo1, h10, hol, hq2, e0, e1, e2, e3, e4, htl, hby, hkb, St.get_drop] <;> omega)); clear hA hB A B))
            | (refine RQ.nl ?_; refine hk _ _ ?_; clear hk k)
            | refine WP.sr fun k hk => ?_ | refine WP.r fun k hk => ?_
            | refine WP.sd _ rfl fun k hk => ?_ | refine WP.d _ rfl fun k hk => ?_
            | (refine WP.cc fun A B hA hB => ?_; simp [h1, h2, h6, h8, h9, g0, g1, hnx, n0, n1, n2, n3, n4, n5, hlt, hQn, hjn, hji, hjl, hdj, hdl, hbj, hbl', hlcs, Bo1, h10, hol, hq2, e0, e1, e2, e3, e4, htl, hby, hkb, St.get_drop, onB_t, onB_f]; first | (refine hA ?_; clear hA hB A B) | (refine hB ?_; clear hA hB A B) | (refine onB_if (fun h => hA ?_) (fun h => hB ?_) <;> clear hA hB A B))
            | refine WP.q ?_ | refine WP.b ?_)
          refine ⟨m', by omega, d.set j true, bd, out ++ [j], by simp; omega, by simp [hdl], by simp [h1], by simp [h2], by simp [h6], by simp [h8], by simp [St.get_push, St.get_put, St.get_drop, n0, n1, n2, n3, n4, n5, e0, e1, e2, e3, e4, g0], by simp [St.get_push, St.get_put, St.get_drop, n0, n1, n2, n3, n4, n5, e0, e1, e2, e3, e4, ← mapset, Bo1], by simp; omega, ?_, ?_, ?_, hord.trans hstep⟩
          · have hT : ∀ x, x = x9 → BdW (s.nx + 1) s2 x bd := fun x hx => by rw [hx]; exact hBd
            refine BdW.keep (s2 := s2) (hT _ (by simp [h9])) (by simp <;> omega) fun z hz1 hz2 hz3 => ?_
            have y1 : ¬ z = s.nx + 1 := by omega
            have y2 : ¬ z = s2.nx := by omega
            have y3 : ¬ z = q2 := fun e => by obtain ⟨l', hl'⟩ := hz3; rw [e, hq2] at hl'; simp at hl'
            simp [St.get_push, St.get_put, St.get_drop, y1, y2, y3]
          · exact .inr ⟨by simp, s2.nx, by omega, by simp, by simp, by simp [St.get_push, St.get_put, St.get_drop, n0, n1, n2, n3, n4, n5, e0, e1, e2, e3, e4, In1]⟩
          · exact Nat.le_trans hbl (Nat.mul_le_mul_right _ (by simp))
end
end Go.Am
namespace Go.Am
open Go.Proofs
/-! ### the reference: rules without atoms -/
def Rw1 (t : List V) : List AV := [.sl (t.map V.cs)]
def cRw : Cel (List V) where
  cs := Rw1
  un x := match x with
    | [.sl d] => unL cV d
    | _ => none
  sz := 1
  un_cs t := unL_V t
  cs_un x a h := by
    split at h
    · rw [unL_eq cV _ _ h]; rfl
    · cases h
  len _ := rfl
  bl a n x hx := by simp [Rw1] at hx; subst hx; exact below_sl' cV n _
def cU : Cel Unit where
  cs _ := [.nsl]
  un x := match x with
    | [.nsl] => some ()
    | _ => none
  sz := 1
  un_cs _ := rfl
  cs_un x a h := by split at h <;> cases h; rfl
  len _ := rfl
  bl a n x hx := by simp at hx; subst hx; simp
def envs0 (b : List Lit) (fs : List Fc) : AV :=
  if (orderE b (-1)).2 = 0 then .tup [.sl (if asksE b fs [] = true then [[.nsl]] else []), .int .i64 0] else .tup [.sl [], .int .i64 (orderE b (-1)).2]
def rows0 (r : Rl) (fs : List Fc) : List (List V) := if asksE r.body fs [] = true then [(groundE [] r.head.a).getD []] else []
def heads0 (r : Rl) (fs : List Fc) : List (List V) × Int :=
  if (orderE r.body (-1)).2 = 0 then (if knownE r.head.a [] = true then (rows0 r fs, 0) else ([], 6)) else ([], (orderE r.body (-1)).2)
section
variable {K : Nat} {gw : World} {s : St}
attribute [local simp] awanted xop zOf cz zrow aop ev T0 Slots.put Slots.set Slots.get awr WOk AV.may ofConst abinop aint isConst St.get_push St.get_put St.live AV.fit AV.cells AV.one fieldOf afieldAddr aload ofCells astore splice May eqres env_ti FinP FinZ FinW ares aresL ares1 Fns.addP Fns.add Fns.a0 Fns.a1 Fns.a2 Fns.a3 Fns.a4 abuiltin alenOk alen aindex elemOfT elemId abuildSlice afill chunks ard aappend isSS AV.isStr aminmax placesOf abuild afield aidx isStrD isStrDesc astrop aslice asliceOk abound arange anext aextract aunop aeq AV.ck avseq aveq aconv aconvert onB_t onB_f List.range_succ
theorem ft_RSorted0 : FT (env K gw) NoW 47 [.sl []] s (.sl []) s := by
  refine FT.data (fn := Tryz.f47) F0_ok mixed Tryz.func47 (by kernel_rfl) (by rfl) rfl rfl (by simp) rfl fun μ w => ?_
  repeat' (first
    | refine WP.t ?_ | refine WP.k ?_ | refine WP.e ?_ | refine Qn ?_ | refine Qr ?_ | refine Qe ?_ | refine Bn ?_ | refine Br ?_ | refine Be ?_ | refine Bx (by decide) ?_
    | (refine RS.nl ?_; refine hk _ _ ?_; clear hk k)
    | ((first | refine RS.st fun A B hA hB => ?_ | refine RQ.st fun A B hA hB => ?_); simp [onW_t, onW_t, onW_f, onV_s]; first | ((first | refine hA _ _ _ ?_ ?_ | refine hA _ _ _ ?_ (by first | exact .inl rfl | exact .inr (by decide)) ?_); (focus (simp [onW_t] <;> omega)); clear hA hB A B) | (refine hB ?_; clear hA hB A B) | (refine onV_if ?_ ?_; (focus (first | omega | (refine ⟨?_, ?_⟩ <;> omega))); simp only [onV_s]; (first | refine hA _ _ _ ?_ ?_ | refine hA _ _ _ ?_ (by first | exact .inl rfl | exact .inr (by decide)) ?_); (focus (simp [onW_t] <;> omega)); clear hA hB A B))
    | (refine RQ.nl ?_; refine hk _ _ ?_; clear hk k)
    | refine WP.sr fun k hk => ?_ | refine WP.r fun k hk => ?_
    | refine WP.sd _ rfl fun k hk => ?_ | refine WP.d _ rfl fun k hk => ?_
    | (refine WP.cc fun A B hA hB => ?_; simp [onW_t, onB_t, onB_f]; first | (refine hA ?_; clear hA hB A B) | (refine hB ?_; clear hA hB A B) | (refine onB_if (fun h => hA ?_) (fun h => hB ?_) <;> clear hA hB A B))
    | refine WP.q ?_ | refine WP.b ?_)
  refine WP_loop (fun n T s' => T.get 0 = .sl [] ∧ T.get 3 = .nsl ∧ T.get 4 = .int .i64 0) 0 ⟨by simp, by simp, by simp⟩ ?_
  rintro n T s' ⟨h0, h3, h4⟩
  repeat' (first
    | refine WP.t ?_ | refine WP.k ?_ | refine WP.e ?_ | refine Qn ?_ | refine Qr ?_ | refine Qe ?_ | refine Bn ?_ | refine Br ?_ | refine Be ?_ | refine Bx (by decide) ?_
    | (refine RS.nl ?_; refine hk _ _ ?_; clear hk k)
    | ((first | refine RS.st fun A B hA hB => ?_ | refine RQ.st fun A B hA hB => ?_); simp [h0, h3, h4, onW_t, onW_f, onV_s]; first | ((first | refine hA _ _ _ ?_ ?_ | refine hA _ _ _ ?_ (by first | exact .inl rfl | exact .inr (by decide)) ?_); (focus (simp [h0, h3, h4] <;> omega)); clear hA hB A B) | (refine hB ?_; clear hA hB A B) | (refine onV_if ?_ ?_; (focus (first | omega | (refine ⟨?_, ?_⟩ <;> omega))); simp only [onV_s]; (first | refine hA _ _ _ ?_ ?_ | refine hA _ _ _ ?_ (by first | exact .inl rfl | exact .inr (by decide)) ?_); (focus (simp [h0, h3, h4] <;> omega)); clear hA hB A B))
    | (refine RQ.nl ?_; refine hk _ _ ?_; clear hk k)
    | refine WP.sr fun k hk => ?_ | refine WP.r fun k hk => ?_
    | refine WP.sd _ rfl fun k hk => ?_ | refine WP.d _ rfl fun k hk => ?_
    | (refine WP.cc fun A B hA hB => ?_; simp [h0, h3, h4, onB_t, onB_f]; first | (refine hA ?_; clear hA hB A B) | (refine hB ?_; clear hA hB A B) | (refine onB_if (fun h => hA ?_) (fun h => hB ?_) <;> clear hA hB A B))
    | refine WP.q ?_ | refine WP.b ?_)
  exact ⟨.inr rfl, .nsl, by simp [h3], .nil⟩
noncomputable def Q23 : Fns := (((Q22.addN 47 fun xs => match xs with
  | [.sl []] => some (.sl [])
  | _ => none).addN 44 fun xs => match xs with
  | [.agg c, .sl d, .sl x] => match cRl.un c, unL cFc d, unL cPr x with
    | some r, some fs, some e => if r.body.length < MB ∧ wL r.body < MB ∧ okRlS r = true ∧ fs.length < MB ∧ okFsS fs = true ∧ e.length < LIM ∧ okE e = true then some (.bool (asksE r.body fs e)) else none
    | _, _, _ => none
  | _ => none).addP 41 fun xs => match xs with
  | [.agg c, .int .i64 (-1)] => match cRl.un c with
    | some r => if r.body.length ≤ 1048576 ∧ wL r.body ≤ 1048576 ∧ noPos r.body = true then some (tupO (orderE r.body (-1))) else none
    | none => none
  | _ => none)
theorem Q23_ok : FOk (env K gw) Q23 := by
  refine ((Q22_ok.addN fun xs s r h => ?_).addN fun xs s r h => ?_).addP fun xs s r h => ?_
  · split at h
    · cases h; exact ft_RSorted0
    · cases h
  · split at h
    · split at h
      · rename_i hc hd hx
        split at h
        · rename_i hl
          cases h
          rw [cRl.cs_un _ _ hc, unL_eq cFc _ _ hd, unL_eq cPr _ _ hx]
          exact ft_RAsks _ _ _ hl.1 hl.2.1 hl.2.2.1 hl.2.2.2.1 hl.2.2.2.2.1 hl.2.2.2.2.2.1 hl.2.2.2.2.2.2
        · cases h
      · cases h
    · cases h
  · split at h
    · split at h
      · rename_i hc
        split at h
        · rename_i hl
          cases h
          rw [cRl.cs_un _ _ hc]
          exact ft_ROrder1 _ hl.1 hl.2.1 hl.2.2
        · cases h
      · cases h
    · cases h
theorem Q23_sorted (s2 : St) : Q23 47 [.nsl] s2 = some (.sl [], s2, []) := by
  simp [Q23, Fns.addN, nrm, nrm0]
theorem Q23_order (r : Rl) (h1 : r.body.length ≤ 1048576) (h2 : wL r.body ≤ 1048576) (h3 : noPos r.body = true) (s2 : St) : Q23 41 [.agg r.cs, .int .i64 (-1)] s2 = some (tupO (orderE r.body (-1)), s2, []) := by
  have u : cRl.un r.cs = some r := cRl.un_cs r
  simp [Q23, u, h1, h2, h3]
theorem nrm_rl (r : Rl) : nrm (.agg r.cs) = .agg r.cs := by simp [nrm, nrm0, Rl.cs]
theorem Q23_asks (r : Rl) (fs : List Fc) (h1 : r.body.length < MB) (h2 : wL r.body < MB) (h3 : okRlS r = true) (h4 : fs.length < MB) (h5 : okFsS fs = true) (s2 : St) : Q23 44 [.agg r.cs, .sl (fs.map Fc.cs), .nsl] s2 = some (.bool (asksE r.body fs []), s2, []) := by
  have hA : cRl.un r.cs = some r := cRl.un_cs r
  have hF := unL_Fc fs
  have hP : unL cPr [] = some [] := rfl
  have h6 : (0 : Nat) < LIM := by decide
  have h7 : okE [] = true := rfl
  have e1 := nrm_rl r
  have e2 : nrm (.sl (fs.map Fc.cs)) = .sl (fs.map Fc.cs) := rfl
  have e3 : nrm .nsl = .sl [] := rfl
  simp only [MB] at h1 h2 h4
  simp [Q23, Fns.addN, e1, e2, e3, hA, hF, hP, h1, h2, h3, h4, h5, h6, h7]
theorem ft_RBound0 (r : Rl) (hb : r.body.length < MB) (hp : noPos r.body = true) : FT (env K gw) NoW 22 [.agg r.cs] s (.sl []) s := by
  obtain ⟨⟨hp', ha⟩, b⟩ := r
  simp only at hb hp
  refine FT.data (fn := Tryz.f22) Q23_ok mixed Tryz.func22 (by kernel_rfl) (by rfl) rfl rfl (by simp) rfl fun μ w => ?_
  have hqs := Q23_sorted
  repeat' (first
    | refine WP.t ?_ | refine WP.k ?_ | refine WP.e ?_ | refine Qn ?_ | refine Qr ?_ | refine Qe ?_ | refine Bn ?_ | refine Br ?_ | refine Be ?_ | refine Bx (by decide) ?_
    | (refine RS.nl ?_; refine hk _ _ ?_; clear hk k)
    | ((first | refine RS.st fun A B hA hB => ?_ | refine RQ.st fun A B hA hB => ?_); simp [Rl.cs, onW_t, onW_f, onV_s]; first | ((first | refine hA _ _ _ ?_ ?_ | refine hA _ _ _ ?_ (by first | exact .inl rfl | exact .inr (by decide)) ?_); (focus (simp [Rl.cs] <;> omega)); clear hA hB A B) | (refine hB ?_; clear hA hB A B) | (refine onV_if ?_ ?_; (focus (first | omega | (refine ⟨?_, ?_⟩ <;> omega))); simp only [onV_s]; (first | refine hA _ _ _ ?_ ?_ | refine hA _ _ _ ?_ (by first | exact .inl rfl | exact .inr (by decide)) ?_); (focus (simp [Rl.cs] <;> omega)); clear hA hB A B))
    | (refine RQ.nl ?_; refine hk _ _ ?_; clear hk k)
    | refine WP.sr fun k hk => ?_ | refine WP.r fun k hk => ?_
    | refine WP.sd _ rfl fun k hk => ?_ | refine WP.d _ rfl fun k hk => ?_
    | (refine WP.cc fun A B hA hB => ?_; simp [Rl.cs, onB_t, onB_f]; first | (refine hA ?_; clear hA hB A B) | (refine hB ?_; clear hA hB A B) | (refine onB_if (fun h => hA ?_) (fun h => hB ?_) <;> clear hA hB A B))
    | refine WP.q ?_ | refine WP.b ?_)
  refine WP_loop (fun n T s' => ∃ (i : Nat), n + i = b.length ∧ s' = s.push (.var 40 [.str hp', .sl (ha.map Tm.cs), .sl (b.map Lit.cs)]) ∧ T.get 1 = .ptr s.nx 0 ∧ T.get 3 = .nsl ∧ T.get 4 = .int .i64 i) b.length
    ⟨0, by simp, by simp, by simp, by simp, by simp⟩ ?_
  rintro n T s' ⟨i, hn, hs', h1, h3, h4⟩
  have hs0 : s'.get s.nx = some (.var 40 [.str hp', .sl (ha.map Tm.cs), .sl (b.map Lit.cs)]) := by rw [hs']; simp [St.get_push]
  have hnx : s'.nx = s.nx + 1 := by rw [hs']; simp
  by_cases hi : i < b.length
  · have hwi : IntKind.i64.wrap ((i : Int) + 1) = (i : Int) + 1 := wrap64 (by omega) (by simp only [MB] at hb; omega)
    have hlt : ((i : Int) < (b.length : Int)) := by omega
    have hbi : b[i]? = some b[i] := List.getElem?_eq_getElem hi
    have hkd := noPos_get hp hi
    generalize hl : b[i] = l at *
    repeat' (first
      | refine WP.t ?_ | refine WP.k ?_ | refine WP.e ?_ | refine Qn ?_ | refine Qr ?_ | refine Qe ?_ | refine Bn ?_ | refine Br ?_ | refine Be ?_ | refine Bx (by decide) ?_
      | (refine RS.nl ?_; refine hk _ _ ?_; clear hk k)
      | ((first | refine RS.st fun A B hA hB => ?_ | refine RQ.st fun A B hA hB => ?_); simp [h1, h3, h4, hs0, hnx, hlt, hi, hbi, hl, hwi, hkd, Lit.cs, onW_t, onW_f, onV_s]; first | ((first | refine hA _ _ _ ?_ ?_ | refine hA _ _ _ ?_ (by first | exact .inl rfl | exact .inr (by decide)) ?_); (focus (simp [h1, h3, h4, hs0, hnx, hlt, hi, hbi, hl, hwi, hkd, Lit.cs] <;> omega)); clear hA hB A B) | (refine hB ?_; clear hA hB A B) | (refine onV_if ?_ ?_; (focus (first | omega | (refine ⟨?_, ?_⟩ <;> omega))); simp only [onV_s]; (first | refine hA _ _ _ ?_ ?_ | refine hA _ _ _ ?_ (by first | exact .inl rfl | exact .inr (by decide)) ?_); (focus (simp [h1, h3, h4, hs0, hnx, hlt, hi, hbi, hl, hwi, hkd, Lit.cs] <;> omega)); clear hA hB A B))
      | (refine RQ.nl ?_; refine hk _ _ ?_; clear hk k)
      | refine WP.sr fun k hk => ?_ | refine WP.r fun k hk => ?_
      | refine WP.sd _ rfl fun k hk => ?_ | refine WP.d _ rfl fun k hk => ?_
      | (refine WP.cc fun A B hA hB => ?_; simp [h1, h3, h4, hs0, hnx, hlt, hi, hbi, hl, hwi, hkd, Lit.cs, onB_t, onB_f]; first | (refine hA ?_; clear hA hB A B) | (refine hB ?_; clear hA hB A B) | (refine onB_if (fun h => hA ?_) (fun h => hB ?_) <;> clear hA hB A B))
      | refine WP.q ?_ | refine WP.b ?_)
    exact ⟨n - 1, by omega, i + 1, by omega, hs', by simp [h1], by simp [h3], by simp⟩
  · have hlt : ¬ ((i : Int) < (b.length : Int)) := by omega
    repeat' (first
      | refine WP.t ?_ | refine WP.k ?_ | refine WP.e ?_ | refine Qn ?_ | refine Qr ?_ | refine Qe ?_ | refine Bn ?_ | refine Br ?_ | refine Be ?_ | refine Bx (by decide) ?_
      | (refine RS.nl ?_; refine hk _ _ ?_; clear hk k)
      | ((first | refine RS.st fun A B hA hB => ?_ | refine RQ.st fun A B hA hB => ?_); simp [h1, h3, h4, hs0, hnx, hlt, hqs, onW_t, onW_f, onV_s]; first | ((first | refine hA _ _ _ ?_ ?_ | refine hA _ _ _ ?_ (by first | exact .inl rfl | exact .inr (by decide)) ?_); (focus (simp [h1, h3, h4, hs0, hnx, hlt, hqs] <;> omega)); clear hA hB A B) | (refine hB ?_; clear hA hB A B) | (refine onV_if ?_ ?_; (focus (first | omega | (refine ⟨?_, ?_⟩ <;> omega))); simp only [onV_s]; (first | refine hA _ _ _ ?_ ?_ | refine hA _ _ _ ?_ (by first | exact .inl rfl | exact .inr (by decide)) ?_); (focus (simp [h1, h3, h4, hs0, hnx, hlt, hqs] <;> omega)); clear hA hB A B))
      | (refine RQ.nl ?_; refine hk _ _ ?_; clear hk k)
      | refine WP.sr fun k hk => ?_ | refine WP.r fun k hk => ?_
      | refine WP.sd _ rfl fun k hk => ?_ | refine WP.d _ rfl fun k hk => ?_
      | (refine WP.cc fun A B hA hB => ?_; simp [h1, h3, h4, hs0, hnx, hlt, hqs, onB_t, onB_f]; first | (refine hA ?_; clear hA hB A B) | (refine hB ?_; clear hA hB A B) | (refine onB_if (fun h => hA ?_) (fun h => hB ?_) <;> clear hA hB A B))
      | refine WP.q ?_ | refine WP.b ?_)
    exact ⟨.inr rfl, .sl [], by simp, .same _ (below_sl' cV _ [])⟩
set_option maxHeartbeats 1000000 in
theorem ft_REnvs0 (r : Rl) (fs dl : List Fc) (hb : r.body.length ≤ 1048576) (hw : wL r.body ≤ 1048576) (hp : noPos r.body = true) (hrs : okRlS r = true) (hfl : fs.length < MB) (hfs : okFsS fs = true) :
    FT (env K gw) NoW 20 [.agg r.cs, .sl (fs.map Fc.cs), .sl (dl.map Fc.cs), .int .i64 (-1)] s (envs0 r.body fs) s := by
  have hQo := Q23_order r hb hw hp
  have hQa := Q23_asks r fs (by simp only [MB]; omega) (by simp only [MB]; omega) hrs hfl hfs
  obtain ⟨⟨hp', ha⟩, b⟩ := r
  simp only at hb hw hp hQo
  have hrc : (Rl.mk ⟨hp', ha⟩ b).cs = [.str hp', .sl (ha.map Tm.cs), .sl (b.map Lit.cs)] := rfl
  rw [hrc] at hQo hQa
  simp only at hQa
  rw [hrc]
  have he : envs0 b fs = if (orderE b (-1)).2 = 0 then .tup [.sl (if asksE b fs [] = true then [[.nsl]] else []), .int .i64 0] else .tup [.sl [], .int .i64 (orderE b (-1)).2] := rfl
  simp only [tupO] at hQo
  generalize (orderE b (-1)).1.getD [] = o at *
  generalize (orderE b (-1)).2 = e at *
  refine FT.data (fn := Tryz.f20) Q23_ok mixed Tryz.func20 (by kernel_rfl) (by rfl) rfl rfl (by simp) rfl fun μ w => ?_
  by_cases hz : e = 0
  · subst hz
    rw [if_pos rfl] at he
    rw [he]
    clear he
    repeat' (first
      | refine WP.t ?_ | refine WP.k ?_ | refine WP.e ?_ | refine Qn ?_ | refine Qr ?_ | refine Qe ?_ | refine Bn ?_ | refine Br ?_ | refine Be ?_ | refine Bx (by decide) ?_
      | (refine RS.nl ?_; refine hk _ _ ?_; clear hk k)
      | ((first | refine RS.st fun A B hA hB => ?_ | refine RQ.st fun A B hA hB => ?_); simp [hQo, onW_t, onW_f, onV_s]; first | ((first | refine hA _ _ _ ?_ ?_ | refine hA _ _ _ ?_ (by first | exact .inl rfl | exact .inr (by decide)) ?_); (focus (simp [hQo] <;> omega)); clear hA hB A B) | (refine hB ?_; clear hA hB A B) | (refine onV_if ?_ ?_; (focus (first | omega | (refine ⟨?_, ?_⟩ <;> omega))); simp only [onV_s]; (first | refine hA _ _ _ ?_ ?_ | refine hA _ _ _ ?_ (by first | exact .inl rfl | exact .inr (by decide)) ?_); (focus (simp [hQo] <;> omega)); clear hA hB A B))
      | (refine RQ.nl ?_; refine hk _ _ ?_; clear hk k)
      | refine WP.sr fun k hk => ?_ | refine WP.r fun k hk => ?_
      | refine WP.sd _ rfl fun k hk => ?_ | refine WP.d _ rfl fun k hk => ?_
      | (refine WP.cc fun A B hA hB => ?_; simp [hQo, onB_t, onB_f]; first | (refine hA ?_; clear hA hB A B) | (refine hB ?_; clear hA hB A B) | (refine onB_if (fun h => hA ?_) (fun h => hB ?_) <;> clear hA hB A B))
      | refine WP.q ?_ | refine WP.b ?_)
    refine WP_loop (fun n T s' => ∃ (i : Nat), n + i = b.length ∧ s' = s.push (.var 40 [.str hp', .sl (ha.map Tm.cs), .sl (b.map Lit.cs)]) ∧ T.get 1 = .sl (fs.map Fc.cs) ∧ T.get 4 = .ptr s.nx 0 ∧ T.get 13 = .int .i64 i ∧ T.get 12 = .sl [[.nsl]]) b.length
      ⟨0, by simp, by simp, by simp, by simp, by simp, by simp⟩ ?_
    rintro n T s' ⟨i, hn, hs', h1, h4, h13, h12⟩
    have hs0 : s'.get s.nx = some (.var 40 [.str hp', .sl (ha.map Tm.cs), .sl (b.map Lit.cs)]) := by rw [hs']; simp [St.get_push]
    have hnx : s'.nx = s.nx + 1 := by rw [hs']; simp
    by_cases hi : i < b.length
    · have hwi : IntKind.i64.wrap ((i : Int) + 1) = (i : Int) + 1 := wrap64 (by omega) (by omega)
      have hlt : ((i : Int) < (b.length : Int)) := by omega
      have hbi : b[i]? = some b[i] := List.getElem?_eq_getElem hi
      have hkd := noPos_get hp hi
      generalize hl : b[i] = l at *
      have hkd2 : (l.kind != 1) = true := by rw [bne, hkd]; rfl
      repeat' (first
        | refine WP.t ?_ | refine WP.k ?_ | refine WP.e ?_ | refine Qn ?_ | refine Qr ?_ | refine Qe ?_ | refine Bn ?_ | refine Br ?_ | refine Be ?_ | refine Bx (by decide) ?_
        | (refine RS.nl ?_; refine hk _ _ ?_; clear hk k)
        | ((first | refine RS.st fun A B hA hB => ?_ | refine RQ.st fun A B hA hB => ?_); simp [h1, h4, h12, h13, hs0, hnx, hlt, hi, hbi, hl, hwi, hkd2, Lit.cs, onW_t, onW_f, onV_s]; first | ((first | refine hA _ _ _ ?_ ?_ | refine hA _ _ _ ?_ (by first | exact .inl rfl | exact .inr (by decide)) ?_); (focus (simp [h1, h4, h12, h13, hs0, hnx, hlt, hi, hbi, hl, hwi, hkd2, Lit.cs] <;> omega)); clear hA hB A B) | (refine hB ?_; clear hA hB A B) | (refine onV_if ?_ ?_; (focus (first | omega | (refine ⟨?_, ?_⟩ <;> omega))); simp only [onV_s]; (first | refine hA _ _ _ ?_ ?_ | refine hA _ _ _ ?_ (by first | exact .inl rfl | exact .inr (by decide)) ?_); (focus (simp [h1, h4, h12, h13, hs0, hnx, hlt, hi, hbi, hl, hwi, hkd2, Lit.cs] <;> omega)); clear hA hB A B))
        | (refine RQ.nl ?_; refine hk _ _ ?_; clear hk k)
        | refine WP.sr fun k hk => ?_ | refine WP.r fun k hk => ?_
        | refine WP.sd _ rfl fun k hk => ?_ | refine WP.d _ rfl fun k hk => ?_
        | (refine WP.cc fun A B hA hB => ?_; simp [h1, h4, h12, h13, hs0, hnx, hlt, hi, hbi, hl, hwi, hkd2, Lit.cs, onB_t, onB_f]; first | (refine hA ?_; clear hA hB A B) | (refine hB ?_; clear hA hB A B) | (refine onB_if (fun h => hA ?_) (fun h => hB ?_) <;> clear hA hB A B))
        | refine WP.q ?_ | refine WP.b ?_)
      exact ⟨n - 1, by omega, i + 1, by omega, hs', by simp [h1], by simp [h4], by simp, by simp [h12]⟩
    · have hlt : ¬ ((i : Int) < (b.length : Int)) := by omega
      generalize hask : asksE b fs [] = ask at *
      repeat' (first
        | refine WP.t ?_ | refine WP.k ?_ | refine WP.e ?_ | refine Qn ?_ | refine Qr ?_ | refine Qe ?_ | refine Bn ?_ | refine Br ?_ | refine Be ?_ | refine Bx (by decide) ?_
        | (refine RS.nl ?_; refine hk _ _ ?_; clear hk k)
        | ((first | refine RS.st fun A B hA hB => ?_ | refine RQ.st fun A B hA hB => ?_); simp [h1, h4, h12, h13, hs0, hnx, hlt, onW_t, onW_f, onV_s]; first | ((first | refine hA _ _ _ ?_ ?_ | refine hA _ _ _ ?_ (by first | exact .inl rfl | exact .inr (by decide)) ?_); (focus (simp [h1, h4, h12, h13, hs0, hnx, hlt] <;> omega)); clear hA hB A B) | (refine hB ?_; clear hA hB A B) | (refine onV_if ?_ ?_; (focus (first | omega | (refine ⟨?_, ?_⟩ <;> omega))); simp only [onV_s]; (first | refine hA _ _ _ ?_ ?_ | refine hA _ _ _ ?_ (by first | exact .inl rfl | exact .inr (by decide)) ?_); (focus (simp [h1, h4, h12, h13, hs0, hnx, hlt] <;> omega)); clear hA hB A B))
        | (refine RQ.nl ?_; refine hk _ _ ?_; clear hk k)
        | refine WP.sr fun k hk => ?_ | refine WP.r fun k hk => ?_
        | refine WP.sd _ rfl fun k hk => ?_ | refine WP.d _ rfl fun k hk => ?_
        | (refine WP.cc fun A B hA hB => ?_; simp [h1, h4, h12, h13, hs0, hnx, hlt, onB_t, onB_f]; first | (refine hA ?_; clear hA hB A B) | (refine hB ?_; clear hA hB A B) | (refine onB_if (fun h => hA ?_) (fun h => hB ?_) <;> clear hA hB A B))
        | refine WP.q ?_ | refine WP.b ?_)
      refine WP_loop (fun n T s2 => T.get 1 = .sl (fs.map Fc.cs) ∧ T.get 4 = .ptr s.nx 0 ∧ T.get 12 = .sl [[.nsl]] ∧
        ((n = 1 ∧ s2 = s' ∧ T.get 20 = .nsl ∧ T.get 21 = .int .i64 0) ∨ (n = 0 ∧ ask = false ∧ s2 = s' ∧ T.get 20 = .nsl ∧ T.get 21 = .int .i64 1) ∨ (n = 0 ∧ ask = true ∧ s2 = s'.push (.row 1 (true, 69) [[.nsl]]) ∧ T.get 20 = .ls (s.nx + 1) 0 1 ∧ T.get 21 = .int .i64 1))) 1
        ⟨by simp [h1], by simp [h4], by simp [h12], .inl ⟨rfl, rfl, by simp, by simp⟩⟩ ?_
      clear h1 h4 h12 h13 hlt
      rintro n T s2 ⟨h1, h4, h12, ⟨rfl, rfl, h20, h21⟩ | ⟨rfl, hk, rfl, h20, h21⟩ | ⟨rfl, hk, rfl, h20, h21⟩⟩
      · cases ask with
        | true =>
          repeat' (first
            | refine WP.t ?_ | refine WP.k ?_ | refine WP.e ?_ | refine Qn ?_ | refine Qr ?_ | refine Qe ?_ | refine Bn ?_ | refine Br ?_ | refine Be ?_ | refine Bx (by decide) ?_
            | (refine RS.nl ?_; refine hk _ _ ?_; clear hk k)
            | ((first | refine RS.st fun A B hA hB => ?_ | refine RQ.st fun A B hA hB => ?_); simp [h1, h4, h12, h20, h21, hs0, hnx, hQa, onW_t, onW_f, onV_s]; first | ((first | refine hA _ _ _ ?_ ?_ | refine hA _ _ _ ?_ (by first | exact .inl rfl | exact .inr (by decide)) ?_); (focus (simp [h1, h4, h12, h20, h21, hs0, hnx, hQa] <;> omega)); clear hA hB A B) | (refine hB ?_; clear hA hB A B) | (refine onV_if ?_ ?_; (focus (first | omega | (refine ⟨?_, ?_⟩ <;> omega))); simp only [onV_s]; (first | refine hA _ _ _ ?_ ?_ | refine hA _ _ _ ?_ (by first | exact .inl rfl | exact .inr (by decide)) ?_); (focus (simp [h1, h4, h12, h20, h21, hs0, hnx, hQa] <;> omega)); clear hA hB A B))
            | (refine RQ.nl ?_; refine hk _ _ ?_; clear hk k)
            | refine WP.sr fun k hk => ?_ | refine WP.r fun k hk => ?_
            | refine WP.sd _ rfl fun k hk => ?_ | refine WP.d _ rfl fun k hk => ?_
            | (refine WP.cc fun A B hA hB => ?_; simp [h1, h4, h12, h20, h21, hs0, hnx, hQa, onB_t, onB_f]; first | (refine hA ?_; clear hA hB A B) | (refine hB ?_; clear hA hB A B) | (refine onB_if (fun h => hA ?_) (fun h => hB ?_) <;> clear hA hB A B))
            | refine WP.q ?_ | refine WP.b ?_)
          exact ⟨0, by omega, by simp [h1], by simp [h4], by simp [h12], .inr (.inr ⟨rfl, rfl, by simp, by simp [hnx], by simp; rfl⟩)⟩
        | false =>
          repeat' (first
            | refine WP.t ?_ | refine WP.k ?_ | refine WP.e ?_ | refine Qn ?_ | refine Qr ?_ | refine Qe ?_ | refine Bn ?_ | refine Br ?_ | refine Be ?_ | refine Bx (by decide) ?_
            | (refine RS.nl ?_; refine hk _ _ ?_; clear hk k)
            | ((first | refine RS.st fun A B hA hB => ?_ | refine RQ.st fun A B hA hB => ?_); simp [h1, h4, h12, h20, h21, hs0, hnx, hQa, onW_t, onW_f, onV_s]; first | ((first | refine hA _ _ _ ?_ ?_ | refine hA _ _ _ ?_ (by first | exact .inl rfl | exact .inr (by decide)) ?_); (focus (simp [h1, h4, h12, h20, h21, hs0, hnx, hQa] <;> omega)); clear hA hB A B) | (refine hB ?_; clear hA hB A B) | (refine onV_if ?_ ?_; (focus (first | omega | (refine ⟨?_, ?_⟩ <;> omega))); simp only [onV_s]; (first | refine hA _ _ _ ?_ ?_ | refine hA _ _ _ ?_ (by first | exact .inl rfl | exact .inr (by decide)) ?_); (focus (simp [h1, h4, h12, h20, h21, hs0, hnx, hQa] <;> omega)); clear hA hB A B))
            | (refine RQ.nl ?_; refine hk _ _ ?_; clear hk k)
            | refine WP.sr fun k hk => ?_ | refine WP.r fun k hk => ?_
            | refine WP.sd _ rfl fun k hk => ?_ | refine WP.d _ rfl fun k hk => ?_
            | (refine WP.cc fun A B hA hB => ?_; simp [h1, h4, h12, h20, h21, hs0, hnx, hQa, onB_t, onB_f]; first | (refine hA ?_; clear hA hB A B) | (refine hB ?_; clear hA hB A B) | (refine onB_if (fun h => hA ?_) (fun h => hB ?_) <;> clear hA hB A B))
            | refine WP.q ?_ | refine WP.b ?_)
          exact ⟨0, by omega, by simp [h1], by simp [h4], by simp [h12], .inr (.inl ⟨rfl, rfl, rfl, by simp [h20], by simp; rfl⟩)⟩
      · subst hk
        repeat' (first
          | refine WP.t ?_ | refine WP.k ?_ | refine WP.e ?_ | refine Qn ?_ | refine Qr ?_ | refine Qe ?_ | refine Bn ?_ | refine Br ?_ | refine Be ?_ | refine Bx (by decide) ?_
          | (refine RS.nl ?_; refine hk _ _ ?_; clear hk k)
          | ((first | refine RS.st fun A B hA hB => ?_ | refine RQ.st fun A B hA hB => ?_); simp [h1, h4, h12, h20, h21, hs0, hnx, onW_t, onW_f, onV_s]; first | ((first | refine hA _ _ _ ?_ ?_ | refine hA _ _ _ ?_ (by first | exact .inl rfl | exact .inr (by decide)) ?_); (focus (simp [h1, h4, h12, h20, h21, hs0, hnx] <;> omega)); clear hA hB A B) | (refine hB ?_; clear hA hB A B) | (refine onV_if ?_ ?_; (focus (first | omega | (refine ⟨?_, ?_⟩ <;> omega))); simp only [onV_s]; (first | refine hA _ _ _ ?_ ?_ | refine hA _ _ _ ?_ (by first | exact .inl rfl | exact .inr (by decide)) ?_); (focus (simp [h1, h4, h12, h20, h21, hs0, hnx] <;> omega)); clear hA hB A B))
          | (refine RQ.nl ?_; refine hk _ _ ?_; clear hk k)
          | refine WP.sr fun k hk => ?_ | refine WP.r fun k hk => ?_
          | refine WP.sd _ rfl fun k hk => ?_ | refine WP.d _ rfl fun k hk => ?_
          | (refine WP.cc fun A B hA hB => ?_; simp [h1, h4, h12, h20, h21, hs0, hnx, onB_t, onB_f]; first | (refine hA ?_; clear hA hB A B) | (refine hB ?_; clear hA hB A B) | (refine onB_if (fun h => hA ?_) (fun h => hB ?_) <;> clear hA hB A B))
          | refine WP.q ?_ | refine WP.b ?_)
        exact ⟨.inr rfl, .tup [.nsl, .int .i64 0], by simp [h20], frz_tup2 .nil (.same _ (by simp))⟩
      · subst hk
        repeat' (first
          | refine WP.t ?_ | refine WP.k ?_ | refine WP.e ?_ | refine Qn ?_ | refine Qr ?_ | refine Qe ?_ | refine Bn ?_ | refine Br ?_ | refine Be ?_ | refine Bx (by decide) ?_
          | (refine RS.nl ?_; refine hk _ _ ?_; clear hk k)
          | ((first | refine RS.st fun A B hA hB => ?_ | refine RQ.st fun A B hA hB => ?_); simp [h1, h4, h12, h20, h21, hs0, hnx, onW_t, onW_f, onV_s]; first | ((first | refine hA _ _ _ ?_ ?_ | refine hA _ _ _ ?_ (by first | exact .inl rfl | exact .inr (by decide)) ?_); (focus (simp [h1, h4, h12, h20, h21, hs0, hnx] <;> omega)); clear hA hB A B) | (refine hB ?_; clear hA hB A B) | (refine onV_if ?_ ?_; (focus (first | omega | (refine ⟨?_, ?_⟩ <;> omega))); simp only [onV_s]; (first | refine hA _ _ _ ?_ ?_ | refine hA _ _ _ ?_ (by first | exact .inl rfl | exact .inr (by decide)) ?_); (focus (simp [h1, h4, h12, h20, h21, hs0, hnx] <;> omega)); clear hA hB A B))
          | (refine RQ.nl ?_; refine hk _ _ ?_; clear hk k)
          | refine WP.sr fun k hk => ?_ | refine WP.r fun k hk => ?_
          | refine WP.sd _ rfl fun k hk => ?_ | refine WP.d _ rfl fun k hk => ?_
          | (refine WP.cc fun A B hA hB => ?_; simp [h1, h4, h12, h20, h21, hs0, hnx, onB_t, onB_f]; first | (refine hA ?_; clear hA hB A B) | (refine hB ?_; clear hA hB A B) | (refine onB_if (fun h => hA ?_) (fun h => hB ?_) <;> clear hA hB A B))
          | refine WP.q ?_ | refine WP.b ?_)
        exact ⟨.inr rfl, .tup [.ls (s.nx + 1) 0 1, .int .i64 0], by simp [h20], frz_tup2 (frz_sl cU (l := [()]) (k := (true, 69)) (by simp [St.get_push, hnx, cU]) (by omega) rfl) (.same _ (by simp))⟩
  · rw [if_neg hz] at he
    rw [he]
    have hzb : (e != 0) = true := by simp [hz]
    repeat' (first
      | refine WP.t ?_ | refine WP.k ?_ | refine WP.e ?_ | refine Qn ?_ | refine Qr ?_ | refine Qe ?_ | refine Bn ?_ | refine Br ?_ | refine Be ?_ | refine Bx (by decide) ?_
      | (refine RS.nl ?_; refine hk _ _ ?_; clear hk k)
      | ((first | refine RS.st fun A B hA hB => ?_ | refine RQ.st fun A B hA hB => ?_); simp [hQo, hzb, onW_t, onW_f, onV_s]; first | ((first | refine hA _ _ _ ?_ ?_ | refine hA _ _ _ ?_ (by first | exact .inl rfl | exact .inr (by decide)) ?_); (focus (simp [hQo, hzb] <;> omega)); clear hA hB A B) | (refine hB ?_; clear hA hB A B) | (refine onV_if ?_ ?_; (focus (first | omega | (refine ⟨?_, ?_⟩ <;> omega))); simp only [onV_s]; (first | refine hA _ _ _ ?_ ?_ | refine hA _ _ _ ?_ (by first | exact .inl rfl | exact .inr (by decide)) ?_); (focus (simp [hQo, hzb] <;> omega)); clear hA hB A B))
      | (refine RQ.nl ?_; refine hk _ _ ?_; clear hk k)
      | refine WP.sr fun k hk => ?_ | refine WP.r fun k hk => ?_
      | refine WP.sd _ rfl fun k hk => ?_ | refine WP.d _ rfl fun k hk => ?_
      | (refine WP.cc fun A B hA hB => ?_; simp [hQo, hzb, onB_t, onB_f]; first | (refine hA ?_; clear hA hB A B) | (refine hB ?_; clear hA hB A B) | (refine onB_if (fun h => hA ?_) (fun h => hB ?_) <;> clear hA hB A B))
      | refine WP.q ?_ | refine WP.b ?_)
    exact ⟨.inr rfl, .tup [.nsl, .int .i64 e], by simp, frz_tup2 .nil (.same _ (by simp))⟩
end
end Go.Am
namespace Go.Am
open Go.Proofs
section
variable {K : Nat} {gw : World} {s : St}
attribute [local simp] awanted xop zOf cz zrow aop ev T0 Slots.put Slots.set Slots.get awr WOk AV.may ofConst abinop aint isConst St.get_push St.get_put St.live AV.fit AV.cells AV.one fieldOf afieldAddr aload ofCells astore splice May eqres env_ti FinP FinZ FinW ares aresL ares1 Fns.addP Fns.add Fns.a0 Fns.a1 Fns.a2 Fns.a3 Fns.a4 abuiltin alenOk alen aindex elemOfT elemId abuildSlice afill chunks ard aappend isSS AV.isStr aminmax placesOf abuild afield aidx isStrD isStrDesc astrop aslice asliceOk abound arange anext aextract aunop aeq AV.ck avseq aveq aconv aconvert onB_t onB_f List.range_succ
set_option maxHeartbeats 1000000 in
theorem ft_RSort1 (l : List (List V)) (hl : l.length ≤ 1) : FT (env K gw) NoW 24 [.sl (l.map Rw1)] s (.sl (l.map Rw1)) s := by
  refine FT.data (fn := Tryz.f24) F0_ok mixed Tryz.func24 (by kernel_rfl) (by rfl) rfl rfl (by simp) rfl fun μ w => ?_
  match l, hl with
  | [], _ =>
    repeat' (first
      | refine WP.t ?_ | refine WP.k ?_ | refine WP.e ?_ | refine Qn ?_ | refine Qr ?_ | refine Qe ?_ | refine Bn ?_ | refine Br ?_ | refine Be ?_ | refine Bx (by decide) ?_
      | (refine RS.nl ?_; refine hk _ _ ?_; clear hk k)
      | ((first | refine RS.st fun A B hA hB => ?_ | refine RQ.st fun A B hA hB => ?_); simp [onW_t, onW_t, onW_f, onV_s]; first | ((first | refine hA _ _ _ ?_ ?_ | refine hA _ _ _ ?_ (by first | exact .inl rfl | exact .inr (by decide)) ?_); (focus (simp [onW_t] <;> omega)); clear hA hB A B) | (refine hB ?_; clear hA hB A B) | (refine onV_if ?_ ?_; (focus (first | omega | (refine ⟨?_, ?_⟩ <;> omega))); simp only [onV_s]; (first | refine hA _ _ _ ?_ ?_ | refine hA _ _ _ ?_ (by first | exact .inl rfl | exact .inr (by decide)) ?_); (focus (simp [onW_t] <;> omega)); clear hA hB A B))
      | (refine RQ.nl ?_; refine hk _ _ ?_; clear hk k)
      | refine WP.sr fun k hk => ?_ | refine WP.r fun k hk => ?_
      | refine WP.sd _ rfl fun k hk => ?_ | refine WP.d _ rfl fun k hk => ?_
      | (refine WP.cc fun A B hA hB => ?_; simp [onW_t, onB_t, onB_f]; first | (refine hA ?_; clear hA hB A B) | (refine hB ?_; clear hA hB A B) | (refine onB_if (fun h => hA ?_) (fun h => hB ?_) <;> clear hA hB A B))
      | refine WP.q ?_ | refine WP.b ?_)
    refine WP_loop (fun n T s' => T.get 0 = .sl [] ∧ T.get 3 = .nsl ∧ T.get 4 = .int .i64 0) 0 ⟨by simp, by simp, by simp⟩ ?_
    rintro n T s' ⟨h0, h3, h4⟩
    repeat' (first
      | refine WP.t ?_ | refine WP.k ?_ | refine WP.e ?_ | refine Qn ?_ | refine Qr ?_ | refine Qe ?_ | refine Bn ?_ | refine Br ?_ | refine Be ?_ | refine Bx (by decide) ?_
      | (refine RS.nl ?_; refine hk _ _ ?_; clear hk k)
      | ((first | refine RS.st fun A B hA hB => ?_ | refine RQ.st fun A B hA hB => ?_); simp [h0, h3, h4, onW_t, onW_f, onV_s]; first | ((first | refine hA _ _ _ ?_ ?_ | refine hA _ _ _ ?_ (by first | exact .inl rfl | exact .inr (by decide)) ?_); (focus (simp [h0, h3, h4] <;> omega)); clear hA hB A B) | (refine hB ?_; clear hA hB A B) | (refine onV_if ?_ ?_; (focus (first | omega | (refine ⟨?_, ?_⟩ <;> omega))); simp only [onV_s]; (first | refine hA _ _ _ ?_ ?_ | refine hA _ _ _ ?_ (by first | exact .inl rfl | exact .inr (by decide)) ?_); (focus (simp [h0, h3, h4] <;> omega)); clear hA hB A B))
      | (refine RQ.nl ?_; refine hk _ _ ?_; clear hk k)
      | refine WP.sr fun k hk => ?_ | refine WP.r fun k hk => ?_
      | refine WP.sd _ rfl fun k hk => ?_ | refine WP.d _ rfl fun k hk => ?_
      | (refine WP.cc fun A B hA hB => ?_; simp [h0, h3, h4, onB_t, onB_f]; first | (refine hA ?_; clear hA hB A B) | (refine hB ?_; clear hA hB A B) | (refine onB_if (fun h => hA ?_) (fun h => hB ?_) <;> clear hA hB A B))
      | refine WP.q ?_ | refine WP.b ?_)
    exact ⟨.inr rfl, .nsl, by simp [h3], .nil⟩
  | [x], _ =>
    repeat' (first
      | refine WP.t ?_ | refine WP.k ?_ | refine WP.e ?_ | refine Qn ?_ | refine Qr ?_ | refine Qe ?_ | refine Bn ?_ | refine Br ?_ | refine Be ?_ | refine Bx (by decide) ?_
      | (refine RS.nl ?_; refine hk _ _ ?_; clear hk k)
      | ((first | refine RS.st fun A B hA hB => ?_ | refine RQ.st fun A B hA hB => ?_); simp [onW_t, onW_t, onW_f, onV_s]; first | ((first | refine hA _ _ _ ?_ ?_ | refine hA _ _ _ ?_ (by first | exact .inl rfl | exact .inr (by decide)) ?_); (focus (simp [onW_t] <;> omega)); clear hA hB A B) | (refine hB ?_; clear hA hB A B) | (refine onV_if ?_ ?_; (focus (first | omega | (refine ⟨?_, ?_⟩ <;> omega))); simp only [onV_s]; (first | refine hA _ _ _ ?_ ?_ | refine hA _ _ _ ?_ (by first | exact .inl rfl | exact .inr (by decide)) ?_); (focus (simp [onW_t] <;> omega)); clear hA hB A B))
      | (refine RQ.nl ?_; refine hk _ _ ?_; clear hk k)
      | refine WP.sr fun k hk => ?_ | refine WP.r fun k hk => ?_
      | refine WP.sd _ rfl fun k hk => ?_ | refine WP.d _ rfl fun k hk => ?_
      | (refine WP.cc fun A B hA hB => ?_; simp [onW_t, onB_t, onB_f]; first | (refine hA ?_; clear hA hB A B) | (refine hB ?_; clear hA hB A B) | (refine onB_if (fun h => hA ?_) (fun h => hB ?_) <;> clear hA hB A B))
      | refine WP.q ?_ | refine WP.b ?_)
    refine WP_loop (fun n T s' => T.get 0 = .sl [[.sl (x.map V.cs)]] ∧ s.nx ≤ s'.nx ∧ ((n = 1 ∧ T.get 3 = .nsl ∧ T.get 4 = .int .i64 0) ∨ (n = 0 ∧ T.get 4 = .int .i64 1 ∧ ∃ q, s.nx ≤ q ∧ q < s'.nx ∧ T.get 3 = .ls q 0 1 ∧ s'.get q = some (.row 1 (true, 27) [[.sl (x.map V.cs)]])))) 1 ⟨by simp [Rw1], by simp, .inl ⟨rfl, by simp, by simp⟩⟩ ?_
    rintro n T s' ⟨h0, hnx, ⟨rfl, h3, h4⟩ | ⟨rfl, h4, q, hq1, hq2, h3, hq⟩⟩
    · skip
      repeat' (first
        | refine WP.t ?_ | refine WP.k ?_ | refine WP.e ?_ | refine Qn ?_ | refine Qr ?_ | refine Qe ?_ | refine Bn ?_ | refine Br ?_ | refine Be ?_ | refine Bx (by decide) ?_
        | (refine RS.nl ?_; refine hk _ _ ?_; clear hk k)
        | ((first | refine RS.st fun A B hA hB => ?_ | refine RQ.st fun A B hA hB => ?_); simp [h0, h3, h4, onW_t, onW_f, onV_s]; first | ((first | refine hA _ _ _ ?_ ?_ | refine hA _ _ _ ?_ (by first | exact .inl rfl | exact .inr (by decide)) ?_); (focus (simp [h0, h3, h4] <;> omega)); clear hA hB A B) | (refine hB ?_; clear hA hB A B) | (refine onV_if ?_ ?_; (focus (first | omega | (refine ⟨?_, ?_⟩ <;> omega))); simp only [onV_s]; (first | refine hA _ _ _ ?_ ?_ | refine hA _ _ _ ?_ (by first | exact .inl rfl | exact .inr (by decide)) ?_); (focus (simp [h0, h3, h4] <;> omega)); clear hA hB A B))
        | (refine RQ.nl ?_; refine hk _ _ ?_; clear hk k)
        | refine WP.sr fun k hk => ?_ | refine WP.r fun k hk => ?_
        | refine WP.sd _ rfl fun k hk => ?_ | refine WP.d _ rfl fun k hk => ?_
        | (refine WP.cc fun A B hA hB => ?_; simp [h0, h3, h4, onB_t, onB_f]; first | (refine hA ?_; clear hA hB A B) | (refine hB ?_; clear hA hB A B) | (refine onB_if (fun h => hA ?_) (fun h => hB ?_) <;> clear hA hB A B))
        | refine WP.q ?_ | refine WP.b ?_)
      refine WP_loop (fun n2 T2 s2 => s2 = s' ∧ T2.get 0 = .sl [[.sl (x.map V.cs)]] ∧ T2.get 3 = .nsl ∧ T2.get 4 = .int .i64 0 ∧ T2.get 5 = .int .i64 0) 0 ⟨rfl, by simp [h0], by simp [h3], by simp [h4], by simp⟩ ?_
      rintro n2 T2 s2 ⟨rfl, k0, k3, k4, k5⟩
      have hbx : ∀ n, Below n (.sl (x.map V.cs)) := fun n => below_sl' cV n _
      repeat' (first
        | refine WP.t ?_ | refine WP.k ?_ | refine WP.e ?_ | refine Qn ?_ | refine Qr ?_ | refine Qe ?_ | refine Bn ?_ | refine Br ?_ | refine Be ?_ | refine Bx (by decide) ?_
        | (refine RS.nl ?_; refine hk _ _ ?_; clear hk k)
        | ((first | refine RS.st fun A B hA hB => ?_ | refine RQ.st fun A B hA hB => ?_); simp [hbx, k0, k3, k4, k5, hnx, St.get_drop, onW_t, onW_f, onV_s]; first | ((first | refine hA _ _ _ ?_ ?_ | refine hA _ _ _ ?_ (by first | exact .inl rfl | exact .inr (by decide)) ?_); (focus (simp [hbx, k0, k3, k4, k5, hnx, St.get_drop] <;> omega)); clear hA hB A B) | (refine hB ?_; clear hA hB A B) | (refine onV_if ?_ ?_; (focus (first | omega | (refine ⟨?_, ?_⟩ <;> omega))); simp only [onV_s]; (first | refine hA _ _ _ ?_ ?_ | refine hA _ _ _ ?_ (by first | exact .inl rfl | exact .inr (by decide)) ?_); (focus (simp [hbx, k0, k3, k4, k5, hnx, St.get_drop] <;> omega)); clear hA hB A B))
        | (refine RQ.nl ?_; refine hk _ _ ?_; clear hk k)
        | refine WP.sr fun k hk => ?_ | refine WP.r fun k hk => ?_
        | refine WP.sd _ rfl fun k hk => ?_ | refine WP.d _ rfl fun k hk => ?_
        | (refine WP.cc fun A B hA hB => ?_; simp [hbx, k0, k3, k4, k5, hnx, St.get_drop, onB_t, onB_f]; first | (refine hA ?_; clear hA hB A B) | (refine hB ?_; clear hA hB A B) | (refine onB_if (fun h => hA ?_) (fun h => hB ?_) <;> clear hA hB A B))
        | refine WP.q ?_ | refine WP.b ?_)
      exact ⟨0, by omega, by simp [k0], by simp; omega, .inr ⟨rfl, by simp; rfl, s2.nx + 1 + 1 + 1, by omega, by simp, by simp, by simp⟩⟩
    · skip
      repeat' (first
        | refine WP.t ?_ | refine WP.k ?_ | refine WP.e ?_ | refine Qn ?_ | refine Qr ?_ | refine Qe ?_ | refine Bn ?_ | refine Br ?_ | refine Be ?_ | refine Bx (by decide) ?_
        | (refine RS.nl ?_; refine hk _ _ ?_; clear hk k)
        | ((first | refine RS.st fun A B hA hB => ?_ | refine RQ.st fun A B hA hB => ?_); simp [h0, h3, h4, onW_t, onW_f, onV_s]; first | ((first | refine hA _ _ _ ?_ ?_ | refine hA _ _ _ ?_ (by first | exact .inl rfl | exact .inr (by decide)) ?_); (focus (simp [h0, h3, h4] <;> omega)); clear hA hB A B) | (refine hB ?_; clear hA hB A B) | (refine onV_if ?_ ?_; (focus (first | omega | (refine ⟨?_, ?_⟩ <;> omega))); simp only [onV_s]; (first | refine hA _ _ _ ?_ ?_ | refine hA _ _ _ ?_ (by first | exact .inl rfl | exact .inr (by decide)) ?_); (focus (simp [h0, h3, h4] <;> omega)); clear hA hB A B))
        | (refine RQ.nl ?_; refine hk _ _ ?_; clear hk k)
        | refine WP.sr fun k hk => ?_ | refine WP.r fun k hk => ?_
        | refine WP.sd _ rfl fun k hk => ?_ | refine WP.d _ rfl fun k hk => ?_
        | (refine WP.cc fun A B hA hB => ?_; simp [h0, h3, h4, onB_t, onB_f]; first | (refine hA ?_; clear hA hB A B) | (refine hB ?_; clear hA hB A B) | (refine onB_if (fun h => hA ?_) (fun h => hB ?_) <;> clear hA hB A B))
        | refine WP.q ?_ | refine WP.b ?_)
      exact ⟨.inr rfl, .ls q 0 1, by simp [h3], frz_sl cRw (l := [x]) (k := (true, 27)) (by simpa [cRw, Rw1] using hq) hq1 rfl⟩
noncomputable def Q24 : Fns := ((Q23.addP 22 fun xs => match xs with
  | [.agg c] => match cRl.un c with
    | some r => if r.body.length < MB ∧ noPos r.body = true then some (.sl []) else none
    | none => none
  | _ => none).addN 24 fun xs => match xs with
  | [.sl d] => match unL cRw d with
    | some l => if l.length ≤ 1 then some (.sl (l.map Rw1)) else none
    | none => none
  | _ => none).addN 20 fun xs => match xs with
  | [.agg c, .sl d, .sl [], .int .i64 (-1)] => match cRl.un c, unL cFc d with
    | some r, some fs => if r.body.length ≤ 1048576 ∧ wL r.body ≤ 1048576 ∧ noPos r.body = true ∧ okRlS r = true ∧ fs.length < MB ∧ okFsS fs = true then some (envs0 r.body fs) else none
    | _, _ => none
  | _ => none
theorem Q24_ok : FOk (env K gw) Q24 := by
  refine ((Q23_ok.addP fun xs s r h => ?_).addN fun xs s r h => ?_).addN fun xs s r h => ?_
  · split at h
    · split at h
      · rename_i hc
        split at h
        · rename_i hl
          cases h
          rw [cRl.cs_un _ _ hc]
          exact ft_RBound0 _ hl.1 hl.2
        · cases h
      · cases h
    · cases h
  · split at h
    · split at h
      · rename_i hc
        split at h
        · rename_i hl
          cases h
          rw [unL_eq cRw _ _ hc]
          exact ft_RSort1 _ hl
        · cases h
      · cases h
    · cases h
  · split at h
    · split at h
      · rename_i hc hd
        split at h
        · rename_i hl
          cases h
          rw [cRl.cs_un _ _ hc, unL_eq cFc _ _ hd]
          exact ft_REnvs0 _ _ [] hl.1 hl.2.1 hl.2.2.1 hl.2.2.2.1 hl.2.2.2.2.1 hl.2.2.2.2.2
        · cases h
      · cases h
    · cases h
theorem Q24_bound (r : Rl) (h1 : r.body.length < MB) (h2 : noPos r.body = true) (s2 : St) : Q24 22 [.agg r.cs] s2 = some (.sl [], s2, []) := by
  have u : cRl.un r.cs = some r := cRl.un_cs r
  simp only [MB] at h1
  simp [Q24, Fns.addN, u, h1, h2]
theorem Q24_sort (l : List (List V)) (h : l.length ≤ 1) (s2 : St) : Q24 24 [.sl (l.map Rw1)] s2 = some (.sl (l.map Rw1), s2, []) := by
  have u : unL cRw (l.map Rw1) = some l := unL_map cRw l
  simp [Q24, Fns.addN, nrm, nrm0, u, h]
theorem Q24_sortN (s2 : St) : Q24 24 [.nsl] s2 = some (.sl [], s2, []) := by
  have u : unL cRw [] = some [] := rfl
  simp [Q24, Fns.addN, nrm, nrm0, u]
theorem Q24_envs (r : Rl) (fs : List Fc) (h1 : r.body.length ≤ 1048576) (h2 : wL r.body ≤ 1048576) (h3 : noPos r.body = true) (h4 : okRlS r = true) (h5 : fs.length < MB) (h6 : okFsS fs = true) (s2 : St) : Q24 20 [.agg r.cs, .sl (fs.map Fc.cs), .nsl, .int .i64 (-1)] s2 = some (envs0 r.body fs, s2, []) := by
  have u : cRl.un r.cs = some r := cRl.un_cs r
  have u2 := unL_Fc fs
  have e1 := nrm_rl r
  have e2 : nrm (.sl (fs.map Fc.cs)) = .sl (fs.map Fc.cs) := rfl
  have e3 : nrm .nsl = .sl [] := rfl
  have e4 : nrm (.int .i64 (-1)) = .int .i64 (-1) := rfl
  simp only [MB] at h5
  simp [Q24, Fns.addN, e1, e2, e3, e4, u, u2, h1, h2, h3, h4, h5, h6]
theorem Q24_known (l : List Tm) (h1 : l.length < LIM) (s2 : St) : Q24 21 [.sl (l.map Tm.cs), .sl []] s2 = some (.bool (knownE l []), s2, []) := by
  have := Q21_known l [] h1 (by decide) s2
  rw [List.map_nil] at this
  rw [← this]
  simp [Q24, Q23, Q22, Fns.addN, Fns.addV, Fns.add]
theorem Q24_ground (t : Atm) (h1 : t.a.length < 268435456) (s2 : St) : Q24 23 [.agg [.str t.p, .sl (t.a.map Tm.cs)], .nsl] s2 = some (tupR (groundE [] t.a), s2, []) := by
  have hA : cAtm.un [.str t.p, .sl (t.a.map Tm.cs)] = some t := cAtm.un_cs t
  have hP : unL cPr [] = some [] := rfl
  have h0 : (0 : Nat) < LIM := by decide
  simp [Q24, Q23, Q22, Q21, Q20, Q14, Q13, Fns.addN, Fns.addV, Fns.add, nrm, nrm0, hA, hP, h1, h0]
set_option maxHeartbeats 1000000 in
theorem ft_RHeads0 (r : Rl) (fs : List Fc) (hb : r.body.length ≤ 1048576) (hw : wL r.body ≤ 1048576) (hh : r.head.a.length ≤ 1048576) (hp : noPos r.body = true) (hrs : okRlS r = true) (hfl : fs.length < MB) (hfs : okFsS fs = true) :
    FT (env K gw) NoW 8 [.agg r.cs, .sl (fs.map Fc.cs), .nsl, .int .i64 (-1)] s (.tup [.sl ((heads0 r fs).1.map Rw1), .int .i64 (heads0 r fs).2]) s := by
  have hQe := Q24_envs r fs hb hw hp hrs hfl hfs
  have hQb := Q24_bound r (by simp only [MB]; omega) hp
  have hQk := Q24_known r.head.a (by simp only [LIM]; omega)
  have hQg := Q24_ground r.head (by omega)
  have hQn := Q24_sortN
  have hrc : r.cs = [.str r.head.p, .sl (r.head.a.map Tm.cs), .sl (r.body.map Lit.cs)] := rfl
  have hhd : heads0 r fs = if (orderE r.body (-1)).2 = 0 then (if knownE r.head.a [] = true then (rows0 r fs, 0) else ([], 6)) else ([], (orderE r.body (-1)).2) := rfl
  have hro : rows0 r fs = if asksE r.body fs [] = true then [(groundE [] r.head.a).getD []] else [] := rfl
  rw [hrc] at hQe hQb
  rw [hrc]
  unfold envs0 at hQe
  generalize (orderE r.body (-1)).2 = e at *
  refine FT.data (fn := Tryz.f8) Q24_ok mixed Tryz.func8 (by kernel_rfl) (by rfl) rfl rfl (by simp) rfl fun μ w => ?_
  by_cases hz : e = 0
  · subst hz
    simp only [if_true] at hQe hhd
    cases hkn : knownE r.head.a [] with
    | false =>
      rw [hkn] at hQk hhd
      rw [hhd]
      repeat' (first
        | refine WP.t ?_ | refine WP.k ?_ | refine WP.e ?_ | refine Qn ?_ | refine Qr ?_ | refine Qe ?_ | refine Bn ?_ | refine Br ?_ | refine Be ?_ | refine Bx (by decide) ?_
        | (refine RS.nl ?_; refine hk _ _ ?_; clear hk k)
        | ((first | refine RS.st fun A B hA hB => ?_ | refine RQ.st fun A B hA hB => ?_); simp [hQe, hQb, hQk, onW_t, onW_f, onV_s]; first | ((first | refine hA _ _ _ ?_ ?_ | refine hA _ _ _ ?_ (by first | exact .inl rfl | exact .inr (by decide)) ?_); (focus (simp [hQe, hQb, hQk] <;> omega)); clear hA hB A B) | (refine hB ?_; clear hA hB A B) | (refine onV_if ?_ ?_; (focus (first | omega | (refine ⟨?_, ?_⟩ <;> omega))); simp only [onV_s]; (first | refine hA _ _ _ ?_ ?_ | refine hA _ _ _ ?_ (by first | exact .inl rfl | exact .inr (by decide)) ?_); (focus (simp [hQe, hQb, hQk] <;> omega)); clear hA hB A B))
        | (refine RQ.nl ?_; refine hk _ _ ?_; clear hk k)
        | refine WP.sr fun k hk => ?_ | refine WP.r fun k hk => ?_
        | refine WP.sd _ rfl fun k hk => ?_ | refine WP.d _ rfl fun k hk => ?_
        | (refine WP.cc fun A B hA hB => ?_; simp [hQe, hQb, hQk, onB_t, onB_f]; first | (refine hA ?_; clear hA hB A B) | (refine hB ?_; clear hA hB A B) | (refine onB_if (fun h => hA ?_) (fun h => hB ?_) <;> clear hA hB A B))
        | refine WP.q ?_ | refine WP.b ?_)
      exact ⟨.inr rfl, .tup [.nsl, .int .i64 6], by simp, frz_tup2 .nil (.same _ (by simp))⟩
    | true =>
      rw [hkn] at hQk hhd
      simp only [if_true] at hhd
      rw [hhd, hro]
      generalize asksE r.body fs [] = ask at *
      obtain ⟨row, ok, hgr, hrow⟩ : ∃ row ok, tupR (groundE [] r.head.a) = .tup [.sl (row.map V.cs), .bool ok] ∧ (groundE [] r.head.a).getD [] = row := by
        cases hg : groundE [] r.head.a with
        | none => exact ⟨[], false, rfl, rfl⟩
        | some x => exact ⟨x, true, rfl, rfl⟩
      rw [hgr] at hQg
      rw [hrow]
      cases ask with
      | false =>
        simp only [Bool.false_eq_true, if_false] at hQe ⊢
        repeat' (first
          | refine WP.t ?_ | refine WP.k ?_ | refine WP.e ?_ | refine Qn ?_ | refine Qr ?_ | refine Qe ?_ | refine Bn ?_ | refine Br ?_ | refine Be ?_ | refine Bx (by decide) ?_
          | (refine RS.nl ?_; refine hk _ _ ?_; clear hk k)
          | ((first | refine RS.st fun A B hA hB => ?_ | refine RQ.st fun A B hA hB => ?_); simp [hQe, hQb, hQk, onW_t, onW_f, onV_s]; first | ((first | refine hA _ _ _ ?_ ?_ | refine hA _ _ _ ?_ (by first | exact .inl rfl | exact .inr (by decide)) ?_); (focus (simp [hQe, hQb, hQk] <;> omega)); clear hA hB A B) | (refine hB ?_; clear hA hB A B) | (refine onV_if ?_ ?_; (focus (first | omega | (refine ⟨?_, ?_⟩ <;> omega))); simp only [onV_s]; (first | refine hA _ _ _ ?_ ?_ | refine hA _ _ _ ?_ (by first | exact .inl rfl | exact .inr (by decide)) ?_); (focus (simp [hQe, hQb, hQk] <;> omega)); clear hA hB A B))
          | (refine RQ.nl ?_; refine hk _ _ ?_; clear hk k)
          | refine WP.sr fun k hk => ?_ | refine WP.r fun k hk => ?_
          | refine WP.sd _ rfl fun k hk => ?_ | refine WP.d _ rfl fun k hk => ?_
          | (refine WP.cc fun A B hA hB => ?_; simp [hQe, hQb, hQk, onB_t, onB_f]; first | (refine hA ?_; clear hA hB A B) | (refine hB ?_; clear hA hB A B) | (refine onB_if (fun h => hA ?_) (fun h => hB ?_) <;> clear hA hB A B))
          | refine WP.q ?_ | refine WP.b ?_)
        refine WP_loop (fun n T s' => T.get 10 = .sl [] ∧ T.get 12 = .nsl ∧ T.get 13 = .int .i64 0) 0 ⟨by simp, by simp, by simp⟩ ?_
        rintro n T s' ⟨h10, h12, h13⟩
        repeat' (first
          | refine WP.t ?_ | refine WP.k ?_ | refine WP.e ?_ | refine Qn ?_ | refine Qr ?_ | refine Qe ?_ | refine Bn ?_ | refine Br ?_ | refine Be ?_ | refine Bx (by decide) ?_
          | (refine RS.nl ?_; refine hk _ _ ?_; clear hk k)
          | ((first | refine RS.st fun A B hA hB => ?_ | refine RQ.st fun A B hA hB => ?_); simp [h10, h12, h13, hQn, onW_t, onW_f, onV_s]; first | ((first | refine hA _ _ _ ?_ ?_ | refine hA _ _ _ ?_ (by first | exact .inl rfl | exact .inr (by decide)) ?_); (focus (simp [h10, h12, h13, hQn] <;> omega)); clear hA hB A B) | (refine hB ?_; clear hA hB A B) | (refine onV_if ?_ ?_; (focus (first | omega | (refine ⟨?_, ?_⟩ <;> omega))); simp only [onV_s]; (first | refine hA _ _ _ ?_ ?_ | refine hA _ _ _ ?_ (by first | exact .inl rfl | exact .inr (by decide)) ?_); (focus (simp [h10, h12, h13, hQn] <;> omega)); clear hA hB A B))
          | (refine RQ.nl ?_; refine hk _ _ ?_; clear hk k)
          | refine WP.sr fun k hk => ?_ | refine WP.r fun k hk => ?_
          | refine WP.sd _ rfl fun k hk => ?_ | refine WP.d _ rfl fun k hk => ?_
          | (refine WP.cc fun A B hA hB => ?_; simp [h10, h12, h13, hQn, onB_t, onB_f]; first | (refine hA ?_; clear hA hB A B) | (refine hB ?_; clear hA hB A B) | (refine onB_if (fun h => hA ?_) (fun h => hB ?_) <;> clear hA hB A B))
          | refine WP.q ?_ | refine WP.b ?_)
        exact ⟨.inr rfl, .tup [.sl [], .int .i64 0], by simp, frz_tup2 (.same _ (below_sl' cV _ [])) (.same _ (by simp))⟩
      | true =>
        simp only [if_true] at hQe ⊢
        have hQs := Q24_sort [row] (by simp)
        simp only [List.map_cons, List.map_nil, Rw1] at hQs
        repeat' (first
          | refine WP.t ?_ | refine WP.k ?_ | refine WP.e ?_ | refine Qn ?_ | refine Qr ?_ | refine Qe ?_ | refine Bn ?_ | refine Br ?_ | refine Be ?_ | refine Bx (by decide) ?_
          | (refine RS.nl ?_; refine hk _ _ ?_; clear hk k)
          | ((first | refine RS.st fun A B hA hB => ?_ | refine RQ.st fun A B hA hB => ?_); simp [hQe, hQb, hQk, onW_t, onW_f, onV_s]; first | ((first | refine hA _ _ _ ?_ ?_ | refine hA _ _ _ ?_ (by first | exact .inl rfl | exact .inr (by decide)) ?_); (focus (simp [hQe, hQb, hQk] <;> omega)); clear hA hB A B) | (refine hB ?_; clear hA hB A B) | (refine onV_if ?_ ?_; (focus (first | omega | (refine ⟨?_, ?_⟩ <;> omega))); simp only [onV_s]; (first | refine hA _ _ _ ?_ ?_ | refine hA _ _ _ ?_ (by first | exact .inl rfl | exact .inr (by decide)) ?_); (focus (simp [hQe, hQb, hQk] <;> omega)); clear hA hB A B))
          | (refine RQ.nl ?_; refine hk _ _ ?_; clear hk k)
          | refine WP.sr fun k hk => ?_ | refine WP.r fun k hk => ?_
          | refine WP.sd _ rfl fun k hk => ?_ | refine WP.d _ rfl fun k hk => ?_
          | (refine WP.cc fun A B hA hB => ?_; simp [hQe, hQb, hQk, onB_t, onB_f]; first | (refine hA ?_; clear hA hB A B) | (refine hB ?_; clear hA hB A B) | (refine onB_if (fun h => hA ?_) (fun h => hB ?_) <;> clear hA hB A B))
          | refine WP.q ?_ | refine WP.b ?_)
        refine WP_loop (fun n T s' => T.get 10 = .sl [[.nsl]] ∧ T.get 4 = .ptr s.nx 0 ∧ s.nx < s'.nx ∧ s'.get s.nx = some (.var 40 [.str r.head.p, .sl (r.head.a.map Tm.cs), .sl (r.body.map Lit.cs)]) ∧ ((n = 1 ∧ T.get 12 = .nsl ∧ T.get 13 = .int .i64 0) ∨ (n = 0 ∧ T.get 13 = .int .i64 1 ∧ ∃ q, s.nx < q ∧ q < s'.nx ∧ T.get 12 = .ls q 0 1 ∧ s'.get q = some (.row 1 (true, 27) [[.sl (row.map V.cs)]])))) 1 ⟨by simp, by simp, by simp, by simp [St.get_push], .inl ⟨rfl, by simp, by simp⟩⟩ ?_
        rintro n T s' ⟨h10, h4, hnx, hs0, ⟨rfl, h12, h13⟩ | ⟨rfl, h13, q, hq1, hq2, h12, hq⟩⟩
        · have m0 : ¬ s.nx = s'.nx := by omega
          have hbx : ∀ n, Below n (.sl (row.map V.cs)) := fun n => below_sl' cV n _
          repeat' (first
            | refine WP.t ?_ | refine WP.k ?_ | refine WP.e ?_ | refine Qn ?_ | refine Qr ?_ | refine Qe ?_ | refine Bn ?_ | refine Br ?_ | refine Be ?_ | refine Bx (by decide) ?_
            | (refine RS.nl ?_; refine hk _ _ ?_; clear hk k)
            | ((first | refine RS.st fun A B hA hB => ?_ | refine RQ.st fun A B hA hB => ?_); simp [h10, h4, hnx, hs0, h12, h13, hQg, hbx, onW_t, onW_f, onV_s]; first | ((first | refine hA _ _ _ ?_ ?_ | refine hA _ _ _ ?_ (by first | exact .inl rfl | exact .inr (by decide)) ?_); (focus (simp [h10, h4, hnx, hs0, h12, h13, hQg, hbx] <;> omega)); clear hA hB A B) | (refine hB ?_; clear hA hB A B) | (refine onV_if ?_ ?_; (focus (first | omega | (refine ⟨?_, ?_⟩ <;> omega))); simp only [onV_s]; (first | refine hA _ _ _ ?_ ?_ | refine hA _ _ _ ?_ (by first | exact .inl rfl | exact .inr (by decide)) ?_); (focus (simp [h10, h4, hnx, hs0, h12, h13, hQg, hbx] <;> omega)); clear hA hB A B))
            | (refine RQ.nl ?_; refine hk _ _ ?_; clear hk k)
            | refine WP.sr fun k hk => ?_ | refine WP.r fun k hk => ?_
            | refine WP.sd _ rfl fun k hk => ?_ | refine WP.d _ rfl fun k hk => ?_
            | (refine WP.cc fun A B hA hB => ?_; simp [h10, h4, hnx, hs0, h12, h13, hQg, hbx, onB_t, onB_f]; first | (refine hA ?_; clear hA hB A B) | (refine hB ?_; clear hA hB A B) | (refine onB_if (fun h => hA ?_) (fun h => hB ?_) <;> clear hA hB A B))
            | refine WP.q ?_ | refine WP.b ?_)
          exact ⟨0, by omega, by simp [h10], by simp [h4], by simp; omega, by simp [St.get_push, m0, hs0], .inr ⟨rfl, by simp; rfl, s'.nx, by omega, by simp, by simp, by simp [St.get_push]⟩⟩
        · skip
          repeat' (first
            | (refine WP.fz 12 q 1 1 (true, 27) [[.sl (row.map V.cs)]] ?_ ?_ ?_ ?_ ?_; (focus (simp [h12])); (focus (simp [hq])); (focus rfl); (focus (show s.nx ≤ q; omega)))
            | refine WP.t ?_ | refine WP.k ?_ | refine WP.e ?_ | refine Qn ?_ | refine Qr ?_ | refine Qe ?_ | refine Bn ?_ | refine Br ?_ | refine Be ?_ | refine Bx (by decide) ?_
            | (refine RS.nl ?_; refine hk _ _ ?_; clear hk k)
            | ((first | refine RS.st fun A B hA hB => ?_ | refine RQ.st fun A B hA hB => ?_); simp [h10, h4, hnx, hs0, h12, h13, hQs, onW_t, onW_f, onV_s]; first | ((first | refine hA _ _ _ ?_ ?_ | refine hA _ _ _ ?_ (by first | exact .inl rfl | exact .inr (by decide)) ?_); (focus (simp [h10, h4, hnx, hs0, h12, h13, hQs] <;> omega)); clear hA hB A B) | (refine hB ?_; clear hA hB A B) | (refine onV_if ?_ ?_; (focus (first | omega | (refine ⟨?_, ?_⟩ <;> omega))); simp only [onV_s]; (first | refine hA _ _ _ ?_ ?_ | refine hA _ _ _ ?_ (by first | exact .inl rfl | exact .inr (by decide)) ?_); (focus (simp [h10, h4, hnx, hs0, h12, h13, hQs] <;> omega)); clear hA hB A B))
            | (refine RQ.nl ?_; refine hk _ _ ?_; clear hk k)
            | refine WP.sr fun k hk => ?_ | refine WP.r fun k hk => ?_
            | refine WP.sd _ rfl fun k hk => ?_ | refine WP.d _ rfl fun k hk => ?_
            | (refine WP.cc fun A B hA hB => ?_; simp [h10, h4, hnx, hs0, h12, h13, hQs, onB_t, onB_f]; first | (refine hA ?_; clear hA hB A B) | (refine hB ?_; clear hA hB A B) | (refine onB_if (fun h => hA ?_) (fun h => hB ?_) <;> clear hA hB A B))
            | refine WP.q ?_ | refine WP.b ?_)
          exact ⟨.inr rfl, .tup [.sl [[.sl (row.map V.cs)]], .int .i64 0], by simp, frz_tup2 (.same _ (below_sl' cRw _ [row])) (.same _ (by simp))⟩
  · rw [if_neg hz] at hQe hhd
    rw [hhd]
    have hzb : (e != 0) = true := by simp [hz]
    repeat' (first
      | refine WP.t ?_ | refine WP.k ?_ | refine WP.e ?_ | refine Qn ?_ | refine Qr ?_ | refine Qe ?_ | refine Bn ?_ | refine Br ?_ | refine Be ?_ | refine Bx (by decide) ?_
      | (refine RS.nl ?_; refine hk _ _ ?_; clear hk k)
      | ((first | refine RS.st fun A B hA hB => ?_ | refine RQ.st fun A B hA hB => ?_); simp [hQe, hzb, onW_t, onW_f, onV_s]; first | ((first | refine hA _ _ _ ?_ ?_ | refine hA _ _ _ ?_ (by first | exact .inl rfl | exact .inr (by decide)) ?_); (focus (simp [hQe, hzb] <;> omega)); clear hA hB A B) | (refine hB ?_; clear hA hB A B) | (refine onV_if ?_ ?_; (focus (first | omega | (refine ⟨?_, ?_⟩ <;> omega))); simp only [onV_s]; (first | refine hA _ _ _ ?_ ?_ | refine hA _ _ _ ?_ (by first | exact .inl rfl | exact .inr (by decide)) ?_); (focus (simp [hQe, hzb] <;> omega)); clear hA hB A B))
      | (refine RQ.nl ?_; refine hk _ _ ?_; clear hk k)
      | refine WP.sr fun k hk => ?_ | refine WP.r fun k hk => ?_
      | refine WP.sd _ rfl fun k hk => ?_ | refine WP.d _ rfl fun k hk => ?_
      | (refine WP.cc fun A B hA hB => ?_; simp [hQe, hzb, onB_t, onB_f]; first | (refine hA ?_; clear hA hB A B) | (refine hB ?_; clear hA hB A B) | (refine onB_if (fun h => hA ?_) (fun h => hB ?_) <;> clear hA hB A B))
      | refine WP.q ?_ | refine WP.b ?_)
    exact ⟨.inr rfl, .tup [.nsl, .int .i64 e], by simp, frz_tup2 .nil (.same _ (by simp))⟩
end
end Go.Am
