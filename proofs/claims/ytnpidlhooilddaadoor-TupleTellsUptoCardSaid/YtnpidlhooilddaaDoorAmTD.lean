/- Part of the proof: abstract values over the given model of Go (T14). Conditions: none of its own; see the statement in the seat's Rows text. -/
import Derived.Test.YtnpidlhooilddaaDoorAmTE
set_option linter.unusedSimpArgs false
set_option linter.unusedVariables false
set_option linter.unusedSectionVars false
namespace Go.Am
open Go.Proofs
section
variable {K : Nat} {gw : World} {s : St}
attribute [local simp] RS_cons' RS_nil RQ_nil RQ_cons' awanted xop zOf zrow aop ev T0 Slots.put Slots.set Slots.get awr WOk AV.may ofConst abinop aint isConst St.get_push St.get_put St.live AV.fit AV.cells AV.one fieldOf afieldAddr aload ofCells astore splice May eqres env_ti FinP ares aresL ares1 Fns.addP Fns.add
def pProj : List AV → Option AV
  | [.sl a, .sl b] => match decL a, decI b with
    | some l, some c => if l.length < 1073741824 ∧ c.length < 1073741824 then some (projT l c) else none
    | _, _ => none
  | [.sl a, .nsl] => match decL a with
    | some l => if l.length < 1073741824 then some (projT l []) else none
    | _ => none
  | _ => none
theorem proj_ok {xs : List AV} {r : AV} (h : pProj xs = some r) : FT (env K gw) NoW 13 xs s r s := by
  unfold pProj at h; split at h
  · split at h
    · rename_i h1 h2
      split at h
      · rename_i hl; cases h; rw [decL_eq h1, decI_eq h2]; exact ft13 _ _ hl.1 hl.2
      · cases h
    · cases h
  · split at h
    · rename_i h1
      split at h
      · rename_i hl
        cases h
        rw [decL_eq h1]
        refine FT.args (ys := [_, .sl (ints [])]) (fun μ w vs hv => ⟨hv.1, fun i x v hx hvv => ?_⟩) (ft13 _ [] hl (by simp))
        match i, hx with
        | 0, hx => exact hv.2 0 x v hx hvv
        | 1, hx =>
          have := hv.2 1 _ v rfl hvv
          simp [ints] at hx
          subst hx
          cases this
          exact .slnil none
      · cases h
    · cases h
  · cases h
noncomputable def F18 : Fns := F17.addP 13 pProj
theorem F18_ok (hK : 0 < K) (hT : Tens gw) : FOk (env K gw) F18 := by
  refine (F17_ok hK hT).addP ?_
  intro xs s r h; exact proj_ok h
theorem cstake (v : V) : v.cs.take 3 = v.cs := rfl
theorem csck (v : V) : v.cs.map AV.ck = [some .b, some .s, some .i] := rfl
theorem csq (v : V) : avseq v.cs v.cs = some true := by simp [V.cs, avseq, aveq]
def upTo (n : Nat) : List Int := (List.range n).map fun (i : Nat) => (i : Int)
set_option maxRecDepth 20000 in
set_option maxHeartbeats 4000000 in
theorem ft5 (hK : 0 < K) (hT : Tens gw) (t : List V) (a : Int) (ht : t.length ≤ 1048576) (h0 : 0 ≤ a) (h1 : a ≤ 255) (hs : ∀ v ∈ t, v.s.length ≤ 1048576) (hself0 : ∀ g, cmpV g g = 0)
    (hp : projT t (upTo t.length) = .tup [.sl (t.map V.cs), .int .i64 0]) :
    FT (env K gw) NoW 5 [.sl (t.map V.cs), .int .u8 a] s (.bool true) s := by
  refine FT.pure (fn := Tryd.f5) (F18_ok hK hT) mixed Tryd.func5 (by kernel_rfl) (by rfl) rfl rfl (by simp) (by kernel_rfl) fun μ w => ?_
  repeat' (first
    | refine WP.t ?_ | refine WP.k ?_ | refine WP.e ?_ | refine Qn ?_ | refine Qr ?_ | refine Qe ?_ | refine Bn ?_ | refine Br ?_ | refine Be ?_ | refine Bx (by decide) ?_
    | (refine RS.nl ?_; refine hk _ _ ?_; clear hk k)
    | (refine RS.st fun A B hA hB => ?_; simp [F18, F17, F16, F15, F14, F13, pShown, onW_t, onW_f, onV_s]; first | (refine hA _ _ _ ?_ ?_; (focus (first | (simp [F18, F17, F16, F15, F14, F13, pShown]; done) | (simp [F18, F17, F16, F15, F14, F13, pShown]; omega))); clear hA hB A B) | (refine hB ?_; clear hA hB A B))
    | (refine RQ.nl ?_; refine hk _ _ ?_; clear hk k)
    | (refine RW.nl ?_; refine hk _ _ ?_; clear hk k)
    | (refine RW.st fun A B hA hB => ?_; simp [F18, F17, F16, F15, F14, F13, pShown, onW_t, onW_f, onV_s]; first | (refine hA _ _ _ ?_ (by first | exact .inl (by decide) | exact .inr (.inl rfl) | exact .inr (.inr rfl)) (by first | exact .inl (by decide) | exact .inr (.inl (by decide)) | exact .inr (.inr fun s2 => by simp [F18, F17, F16, F15, F14, F13, pShown])) ?_; (focus (first | (simp [F18, F17, F16, F15, F14, F13, pShown]; done) | (simp [F18, F17, F16, F15, F14, F13, pShown]; omega))); clear hA hB A B) | (refine hB ?_; clear hA hB A B))
    | (refine RQ.st fun A B hA hB => ?_; simp [F18, F17, F16, F15, F14, F13, pShown, onW_t, onW_f, onV_s]; first | (refine hA _ _ _ ?_ (by first | exact .inl rfl | exact .inr (by decide)) ?_; (focus (first | (simp [F18, F17, F16, F15, F14, F13, pShown]; done) | (simp [F18, F17, F16, F15, F14, F13, pShown]; omega))); clear hA hB A B) | (refine hB ?_; clear hA hB A B))
    | refine WP.sr fun k hk => ?_ | refine WP.r fun k hk => ?_ | refine WP.sd _ rfl fun k hk => ?_ | refine WP.d _ rfl fun k hk => ?_
    | (refine WP.cc fun A B hA hB => ?_; simp [F18, F17, F16, F15, F14, F13, pShown, onB_t, onB_f]; first | (refine hA ?_; clear hA hB A B) | (refine hB ?_; clear hA hB A B) | (refine onB_if (fun h => hA ?_) (fun h => hB ?_) <;> clear hA hB A B))
    | refine WP.q ?_ | refine WP.b ?_)
  refine WP_loop (fun n T s' => ∃ i : Nat, n + i = t.length ∧ T.get 0 = .sl (t.map V.cs) ∧ T.get 1 = .int .u8 a ∧ T.get 5 = .bool true ∧ T.get 7 = .int .i64 i ∧ s.nx ≤ s'.nx ∧
    ((i = 0 ∧ T.get 6 = .nsl) ∨ (0 < i ∧ ∃ rd, s.nx ≤ rd ∧ rd < s'.nx ∧ T.get 6 = .ls rd 0 i ∧ s'.get rd = some (.row 1 (true, 3) (ints (upTo i)))))) t.length ⟨0, by simp, by simp, by simp, by simp, by simp, by simp, .inl ⟨rfl, by simp⟩⟩ ?_
  rintro n T s' ⟨i, hni, g0, g1, g5, g7, hnx, hB⟩
  by_cases hi : i < t.length
  · have hw : IntKind.i64.wrap ((i : Int) + 1) = (i : Int) + 1 := wrap64 (by omega) (by omega)
    have hlt : ((i : Int) < (t.length : Int)) := by omega
    have hup : upTo (i + 1) = upTo i ++ [(i : Int)] := by simp [upTo, List.range_succ]
    have hul : (upTo i).length = i := by simp [upTo]
    rcases hB with ⟨rfl, h3⟩ | ⟨hi0, rd, hrd, hrd2, h3, hr⟩
    · skip
      repeat' (first
        | refine WP.t ?_ | refine WP.k ?_ | refine WP.e ?_ | refine Qn ?_ | refine Qr ?_ | refine Qe ?_ | refine Bn ?_ | refine Br ?_ | refine Be ?_ | refine Bx (by decide) ?_
        | (refine RS.nl ?_; refine hk _ _ ?_; clear hk k)
        | (refine RS.st fun A B hA hB => ?_; simp [g0, g1, g5, g7, hlt, hi, hw, hnx, h3, elemOfT, elemId, ti27, ti3, ti22, abuildSlice, afill, chunks, abuiltin, alen, alenOk, ard, aappend, isSS, AV.isStr, onW_t, onW_f, onV_s]; first | (refine hA _ _ _ ?_ ?_; (focus (first | (simp [g0, g1, g5, g7, hlt, hi, hw, hnx, h3, elemOfT, elemId, ti27, ti3, ti22, abuildSlice, afill, chunks, abuiltin, alen, alenOk, ard, aappend, isSS, AV.isStr]; done) | (simp [g0, g1, g5, g7, hlt, hi, hw, hnx, h3, elemOfT, elemId, ti27, ti3, ti22, abuildSlice, afill, chunks, abuiltin, alen, alenOk, ard, aappend, isSS, AV.isStr]; omega))); clear hA hB A B) | (refine hB ?_; clear hA hB A B))
        | (refine RQ.nl ?_; refine hk _ _ ?_; clear hk k)
        | (refine RW.nl ?_; refine hk _ _ ?_; clear hk k)
        | (refine RW.st fun A B hA hB => ?_; simp [g0, g1, g5, g7, hlt, hi, hw, hnx, h3, elemOfT, elemId, ti27, ti3, ti22, abuildSlice, afill, chunks, abuiltin, alen, alenOk, ard, aappend, isSS, AV.isStr, onW_t, onW_f, onV_s]; first | (refine hA _ _ _ ?_ (by first | exact .inl (by decide) | exact .inr (.inl rfl) | exact .inr (.inr rfl)) (by first | exact .inl (by decide) | exact .inr (.inl (by decide)) | exact .inr (.inr fun s2 => by simp [g0, g1, g5, g7, hlt, hi, hw, hnx, h3, elemOfT, elemId, ti27, ti3, ti22, abuildSlice, afill, chunks, abuiltin, alen, alenOk, ard, aappend, isSS, AV.isStr])) ?_; (focus (first | (simp [g0, g1, g5, g7, hlt, hi, hw, hnx, h3, elemOfT, elemId, ti27, ti3, ti22, abuildSlice, afill, chunks, abuiltin, alen, alenOk, ard, aappend, isSS, AV.isStr]; done) | (simp [g0, g1, g5, g7, hlt, hi, hw, hnx, h3, elemOfT, elemId, ti27, ti3, ti22, abuildSlice, afill, chunks, abuiltin, alen, alenOk, ard, aappend, isSS, AV.isStr]; omega))); clear hA hB A B) | (refine hB ?_; clear hA hB A B))
        | (refine RQ.st fun A B hA hB => ?_; simp [g0, g1, g5, g7, hlt, hi, hw, hnx, h3, elemOfT, elemId, ti27, ti3, ti22, abuildSlice, afill, chunks, abuiltin, alen, alenOk, ard, aappend, isSS, AV.isStr, onW_t, onW_f, onV_s]; first | (refine hA _ _ _ ?_ (by first | exact .inl rfl | exact .inr (by decide)) ?_; (focus (first | (simp [g0, g1, g5, g7, hlt, hi, hw, hnx, h3, elemOfT, elemId, ti27, ti3, ti22, abuildSlice, afill, chunks, abuiltin, alen, alenOk, ard, aappend, isSS, AV.isStr]; done) | (simp [g0, g1, g5, g7, hlt, hi, hw, hnx, h3, elemOfT, elemId, ti27, ti3, ti22, abuildSlice, afill, chunks, abuiltin, alen, alenOk, ard, aappend, isSS, AV.isStr]; omega))); clear hA hB A B) | (refine hB ?_; clear hA hB A B))
        | refine WP.sr fun k hk => ?_ | refine WP.r fun k hk => ?_ | refine WP.sd _ rfl fun k hk => ?_ | refine WP.d _ rfl fun k hk => ?_
        | (refine WP.cc fun A B hA hB => ?_; simp [g0, g1, g5, g7, hlt, hi, hw, hnx, h3, elemOfT, elemId, ti27, ti3, ti22, abuildSlice, afill, chunks, abuiltin, alen, alenOk, ard, aappend, isSS, AV.isStr, onB_t, onB_f]; first | (refine hA ?_; clear hA hB A B) | (refine hB ?_; clear hA hB A B) | (refine onB_if (fun h => hA ?_) (fun h => hB ?_) <;> clear hA hB A B))
        | refine WP.q ?_ | refine WP.b ?_)
      refine ⟨n - 1, by omega, 1, by omega, by simp [g0], by simp [g1], by simp [g5], by simp [wrap64 (x := 1) (by omega) (by omega)], by simp; omega, .inr ⟨by omega, s'.nx + 1, by omega, by simp, by simp, ?_⟩⟩
      simp [ints, upTo]
    · have n1 : ¬ rd = s'.nx := by omega
      have n2 : ¬ rd = s'.nx + 1 := by omega
      have hby : (i + 1) * 8 ≤ 140737488355328 := by omega
      have hil : (ints (upTo i)).length = i := by simp [ints, hul]
      repeat' (first
        | refine WP.t ?_ | refine WP.k ?_ | refine WP.e ?_ | refine Qn ?_ | refine Qr ?_ | refine Qe ?_ | refine Bn ?_ | refine Br ?_ | refine Be ?_ | refine Bx (by decide) ?_
        | (refine RS.nl ?_; refine hk _ _ ?_; clear hk k)
        | (refine RS.st fun A B hA hB => ?_; simp [g0, g1, g5, g7, hlt, hi, hw, hnx, h3, elemOfT, elemId, ti27, ti3, ti22, abuildSlice, afill, chunks, abuiltin, alen, alenOk, ard, aappend, isSS, AV.isStr, hr, n1, n2, hil, hby, hrd, onW_t, onW_f, onV_s]; first | (refine hA _ _ _ ?_ ?_; (focus (first | (simp [g0, g1, g5, g7, hlt, hi, hw, hnx, h3, elemOfT, elemId, ti27, ti3, ti22, abuildSlice, afill, chunks, abuiltin, alen, alenOk, ard, aappend, isSS, AV.isStr, hr, n1, n2, hil, hby, hrd]; done) | (simp [g0, g1, g5, g7, hlt, hi, hw, hnx, h3, elemOfT, elemId, ti27, ti3, ti22, abuildSlice, afill, chunks, abuiltin, alen, alenOk, ard, aappend, isSS, AV.isStr, hr, n1, n2, hil, hby, hrd]; omega))); clear hA hB A B) | (refine hB ?_; clear hA hB A B))
        | (refine RQ.nl ?_; refine hk _ _ ?_; clear hk k)
        | (refine RW.nl ?_; refine hk _ _ ?_; clear hk k)
        | (refine RW.st fun A B hA hB => ?_; simp [g0, g1, g5, g7, hlt, hi, hw, hnx, h3, elemOfT, elemId, ti27, ti3, ti22, abuildSlice, afill, chunks, abuiltin, alen, alenOk, ard, aappend, isSS, AV.isStr, hr, n1, n2, hil, hby, hrd, onW_t, onW_f, onV_s]; first | (refine hA _ _ _ ?_ (by first | exact .inl (by decide) | exact .inr (.inl rfl) | exact .inr (.inr rfl)) (by first | exact .inl (by decide) | exact .inr (.inl (by decide)) | exact .inr (.inr fun s2 => by simp [g0, g1, g5, g7, hlt, hi, hw, hnx, h3, elemOfT, elemId, ti27, ti3, ti22, abuildSlice, afill, chunks, abuiltin, alen, alenOk, ard, aappend, isSS, AV.isStr, hr, n1, n2, hil, hby, hrd])) ?_; (focus (first | (simp [g0, g1, g5, g7, hlt, hi, hw, hnx, h3, elemOfT, elemId, ti27, ti3, ti22, abuildSlice, afill, chunks, abuiltin, alen, alenOk, ard, aappend, isSS, AV.isStr, hr, n1, n2, hil, hby, hrd]; done) | (simp [g0, g1, g5, g7, hlt, hi, hw, hnx, h3, elemOfT, elemId, ti27, ti3, ti22, abuildSlice, afill, chunks, abuiltin, alen, alenOk, ard, aappend, isSS, AV.isStr, hr, n1, n2, hil, hby, hrd]; omega))); clear hA hB A B) | (refine hB ?_; clear hA hB A B))
        | (refine RQ.st fun A B hA hB => ?_; simp [g0, g1, g5, g7, hlt, hi, hw, hnx, h3, elemOfT, elemId, ti27, ti3, ti22, abuildSlice, afill, chunks, abuiltin, alen, alenOk, ard, aappend, isSS, AV.isStr, hr, n1, n2, hil, hby, hrd, onW_t, onW_f, onV_s]; first | (refine hA _ _ _ ?_ (by first | exact .inl rfl | exact .inr (by decide)) ?_; (focus (first | (simp [g0, g1, g5, g7, hlt, hi, hw, hnx, h3, elemOfT, elemId, ti27, ti3, ti22, abuildSlice, afill, chunks, abuiltin, alen, alenOk, ard, aappend, isSS, AV.isStr, hr, n1, n2, hil, hby, hrd]; done) | (simp [g0, g1, g5, g7, hlt, hi, hw, hnx, h3, elemOfT, elemId, ti27, ti3, ti22, abuildSlice, afill, chunks, abuiltin, alen, alenOk, ard, aappend, isSS, AV.isStr, hr, n1, n2, hil, hby, hrd]; omega))); clear hA hB A B) | (refine hB ?_; clear hA hB A B))
        | refine WP.sr fun k hk => ?_ | refine WP.r fun k hk => ?_ | refine WP.sd _ rfl fun k hk => ?_ | refine WP.d _ rfl fun k hk => ?_
        | (refine WP.cc fun A B hA hB => ?_; simp [g0, g1, g5, g7, hlt, hi, hw, hnx, h3, elemOfT, elemId, ti27, ti3, ti22, abuildSlice, afill, chunks, abuiltin, alen, alenOk, ard, aappend, isSS, AV.isStr, hr, n1, n2, hil, hby, hrd, onB_t, onB_f]; first | (refine hA ?_; clear hA hB A B) | (refine hB ?_; clear hA hB A B) | (refine onB_if (fun h => hA ?_) (fun h => hB ?_) <;> clear hA hB A B))
        | refine WP.q ?_ | refine WP.b ?_)
      refine ⟨n - 1, by omega, i + 1, by omega, by simp [g0], by simp [g1], by simp [g5], by simp, by simp; omega, .inr ⟨by omega, s'.nx + 1, by omega, by simp, by simp, ?_⟩⟩
      have e2 : ∀ s2 : St, s2.nx = s'.nx + 1 → ∀ o, (s2.push o).get (s'.nx + 1) = some o := fun s2 h o => by rw [← h]; exact St.get_push_same _ _
      rw [e2 _ (by simp), hup]
      simp [ints]
  · have hlt : ¬ ((i : Int) < (t.length : Int)) := by omega
    have he : i = t.length := by omega
    subst he
    have hL : t.length < 1073741824 := by omega
    have b1 : projT t [(t.length : Int)] = .tup [.sl [], .int .i64 1] := by simp [projT, okI]
    have b2 : projT t [-1] = .tup [.sl [], .int .i64 1] := by simp [projT, okI]
    have b3 : projT t [] = .tup [.sl [], .int .i64 0] := by simp [projT]
    rcases hB with ⟨hz, h3⟩ | ⟨hi0, rd, hrd, hrd2, h3, hr⟩
    · have hl0 : ((t.length : Int) == 0) = true := by rw [hz]; rfl
      repeat' (first
        | refine WP.t ?_ | refine WP.k ?_ | refine WP.e ?_ | refine Qn ?_ | refine Qr ?_ | refine Qe ?_ | refine Bn ?_ | refine Br ?_ | refine Be ?_ | refine Bx (by decide) ?_
        | (refine RS.nl ?_; refine hk _ _ ?_; clear hk k)
        | (refine RS.st fun A B hA hB => ?_; simp [F18, F17, F16, F15, F14, F13, pShown, pProj, decI, g0, g1, g5, g7, ti22, ti27, ti3, ti28, abuiltin, alen, alenOk, abuildSlice, afill, chunks, elemOfT, elemId, hL, b1, b2, b3, aextract, hlt, h3, hl0, onW_t, onW_f, onV_s]; first | (refine hA _ _ _ ?_ ?_; (focus (first | (simp [F18, F17, F16, F15, F14, F13, pShown, pProj, decI, g0, g1, g5, g7, ti22, ti27, ti3, ti28, abuiltin, alen, alenOk, abuildSlice, afill, chunks, elemOfT, elemId, hL, b1, b2, b3, aextract, hlt, h3, hl0]; done) | (simp [F18, F17, F16, F15, F14, F13, pShown, pProj, decI, g0, g1, g5, g7, ti22, ti27, ti3, ti28, abuiltin, alen, alenOk, abuildSlice, afill, chunks, elemOfT, elemId, hL, b1, b2, b3, aextract, hlt, h3, hl0]; omega))); clear hA hB A B) | (refine hB ?_; clear hA hB A B))
        | (refine RQ.nl ?_; refine hk _ _ ?_; clear hk k)
        | (refine RW.nl ?_; refine hk _ _ ?_; clear hk k)
        | (refine RW.st fun A B hA hB => ?_; simp [F18, F17, F16, F15, F14, F13, pShown, pProj, decI, g0, g1, g5, g7, ti22, ti27, ti3, ti28, abuiltin, alen, alenOk, abuildSlice, afill, chunks, elemOfT, elemId, hL, b1, b2, b3, aextract, hlt, h3, hl0, onW_t, onW_f, onV_s]; first | (refine hA _ _ _ ?_ (by first | exact .inl (by decide) | exact .inr (.inl rfl) | exact .inr (.inr rfl)) (by first | exact .inl (by decide) | exact .inr (.inl (by decide)) | exact .inr (.inr fun s2 => by simp [F18, F17, F16, F15, F14, F13, pShown, pProj, decI, g0, g1, g5, g7, ti22, ti27, ti3, ti28, abuiltin, alen, alenOk, abuildSlice, afill, chunks, elemOfT, elemId, hL, b1, b2, b3, aextract, hlt, h3, hl0])) ?_; (focus (first | (simp [F18, F17, F16, F15, F14, F13, pShown, pProj, decI, g0, g1, g5, g7, ti22, ti27, ti3, ti28, abuiltin, alen, alenOk, abuildSlice, afill, chunks, elemOfT, elemId, hL, b1, b2, b3, aextract, hlt, h3, hl0]; done) | (simp [F18, F17, F16, F15, F14, F13, pShown, pProj, decI, g0, g1, g5, g7, ti22, ti27, ti3, ti28, abuiltin, alen, alenOk, abuildSlice, afill, chunks, elemOfT, elemId, hL, b1, b2, b3, aextract, hlt, h3, hl0]; omega))); clear hA hB A B) | (refine hB ?_; clear hA hB A B))
        | (refine RQ.st fun A B hA hB => ?_; simp [F18, F17, F16, F15, F14, F13, pShown, pProj, decI, g0, g1, g5, g7, ti22, ti27, ti3, ti28, abuiltin, alen, alenOk, abuildSlice, afill, chunks, elemOfT, elemId, hL, b1, b2, b3, aextract, hlt, h3, hl0, onW_t, onW_f, onV_s]; first | (refine hA _ _ _ ?_ (by first | exact .inl rfl | exact .inr (by decide)) ?_; (focus (first | (simp [F18, F17, F16, F15, F14, F13, pShown, pProj, decI, g0, g1, g5, g7, ti22, ti27, ti3, ti28, abuiltin, alen, alenOk, abuildSlice, afill, chunks, elemOfT, elemId, hL, b1, b2, b3, aextract, hlt, h3, hl0]; done) | (simp [F18, F17, F16, F15, F14, F13, pShown, pProj, decI, g0, g1, g5, g7, ti22, ti27, ti3, ti28, abuiltin, alen, alenOk, abuildSlice, afill, chunks, elemOfT, elemId, hL, b1, b2, b3, aextract, hlt, h3, hl0]; omega))); clear hA hB A B) | (refine hB ?_; clear hA hB A B))
        | refine WP.sr fun k hk => ?_ | refine WP.r fun k hk => ?_ | refine WP.sd _ rfl fun k hk => ?_ | refine WP.d _ rfl fun k hk => ?_
        | (refine WP.cc fun A B hA hB => ?_; simp [F18, F17, F16, F15, F14, F13, pShown, pProj, decI, g0, g1, g5, g7, ti22, ti27, ti3, ti28, abuiltin, alen, alenOk, abuildSlice, afill, chunks, elemOfT, elemId, hL, b1, b2, b3, aextract, hlt, h3, hl0, onB_t, onB_f]; first | (refine hA ?_; clear hA hB A B) | (refine hB ?_; clear hA hB A B) | (refine onB_if (fun h => hA ?_) (fun h => hB ?_) <;> clear hA hB A B))
        | refine WP.q ?_ | refine WP.b ?_)
      simp
    · have hl0 : ((t.length : Int) == 0) = false := by rw [beq_eq_false_iff_ne]; omega
      have hne0 : ¬ (t.length : Int) = 0 := by omega
      have hne1 : ¬ t = [] := fun e => by rw [e] at hi0; exact absurd hi0 (by simp)
      have hul : (upTo t.length).length < 1073741824 := by simp [upTo]; omega
      have hrem : a.tmod t.length = a % t.length := Int.tmod_eq_emod_of_nonneg h0
      have hconv : IntKind.i64.wrap a = a := wrap64 (by omega) (by omega)
      have hk1 : 0 ≤ a % (t.length : Int) := Int.emod_nonneg _ hne0
      have hk2 : a % (t.length : Int) < t.length := Int.emod_lt_of_pos _ (by omega)
      generalize hkv : a % (t.length : Int) = kk at *
      have hk3 : kk.toNat < t.length := by omega
      have htk : t[kk.toNat]? = some t[kk.toNat] := List.getElem?_eq_getElem hk3
      have hmem : t[kk.toNat] ∈ t := List.getElem_mem hk3
      have hgs := hs _ hmem
      have hkk : getI t kk = t[kk.toNat] := by simp only [getI, htk]; rfl
      have hok : okI t kk = true := by simp [okI]; omega
      generalize hg : t[kk.toNat] = g at *
      have htk2 : t[kk.toNat] = g := hg
      have hgs : g.s.length < LIM := by unfold LIM; omega
      have hLL : t.length < LIM := by unfold LIM; omega
      have hself : cmpV g g = 0 := hself0 g
      have hpk : projT t [kk, kk] = .tup [.sl [g.cs, g.cs], .int .i64 0] := by simp [projT, hok, hkk]
      repeat' (first
        | (refine WP.fz 6 rd 1 t.length (true, 3) (ints (upTo t.length)) ?_ ?_ ?_ ?_ ?_; (focus (simp [h3]; done)); (focus (exact hr)); (focus (simp [ints, upTo]; done)); (focus (simp; omega)))
        | refine WP.t ?_ | refine WP.k ?_ | refine WP.e ?_ | refine Qn ?_ | refine Qr ?_ | refine Qe ?_ | refine Bn ?_ | refine Br ?_ | refine Be ?_ | refine Bx (by decide) ?_
        | (refine RS.nl ?_; refine hk _ _ ?_; clear hk k)
        | (refine RS.st fun A B hA hB => ?_; simp [F18, F17, F16, F15, F14, F13, pShown, pProj, pSameT, pSameV, decI, g0, g1, g5, g7, ti22, ti27, ti3, ti28, ti34, ti5, abuiltin, alen, alenOk, abuildSlice, afill, chunks, elemOfT, elemId, hL, b1, b2, b3, aextract, hlt, hl0, hul, hp, hpk, hrem, hconv, aconv, aconvert, hkk, htk, htk2, hk1, hk2, hk3, hself, hgs, hLL, bare_cs_len, cstake, csck, csq, kV, aeq, aindex, hne0, hne1, abuild, placesOf, List.range, List.range.loop, onW_t, onW_f, onV_s]; first | (refine hA _ _ _ ?_ ?_; (focus (first | (simp [F18, F17, F16, F15, F14, F13, pShown, pProj, pSameT, pSameV, decI, g0, g1, g5, g7, ti22, ti27, ti3, ti28, ti34, ti5, abuiltin, alen, alenOk, abuildSlice, afill, chunks, elemOfT, elemId, hL, b1, b2, b3, aextract, hlt, hl0, hul, hp, hpk, hrem, hconv, aconv, aconvert, hkk, htk, htk2, hk1, hk2, hk3, hself, hgs, hLL, bare_cs_len, cstake, csck, csq, kV, aeq, aindex, hne0, hne1, abuild, placesOf, List.range, List.range.loop]; done) | (simp [F18, F17, F16, F15, F14, F13, pShown, pProj, pSameT, pSameV, decI, g0, g1, g5, g7, ti22, ti27, ti3, ti28, ti34, ti5, abuiltin, alen, alenOk, abuildSlice, afill, chunks, elemOfT, elemId, hL, b1, b2, b3, aextract, hlt, hl0, hul, hp, hpk, hrem, hconv, aconv, aconvert, hkk, htk, htk2, hk1, hk2, hk3, hself, hgs, hLL, bare_cs_len, cstake, csck, csq, kV, aeq, aindex, hne0, hne1, abuild, placesOf, List.range, List.range.loop]; omega))); clear hA hB A B) | (refine hB ?_; clear hA hB A B))
        | (refine RQ.nl ?_; refine hk _ _ ?_; clear hk k)
        | (refine RW.nl ?_; refine hk _ _ ?_; clear hk k)
        | (refine RW.st fun A B hA hB => ?_; simp [F18, F17, F16, F15, F14, F13, pShown, pProj, pSameT, pSameV, decI, g0, g1, g5, g7, ti22, ti27, ti3, ti28, ti34, ti5, abuiltin, alen, alenOk, abuildSlice, afill, chunks, elemOfT, elemId, hL, b1, b2, b3, aextract, hlt, hl0, hul, hp, hpk, hrem, hconv, aconv, aconvert, hkk, htk, htk2, hk1, hk2, hk3, hself, hgs, hLL, bare_cs_len, cstake, csck, csq, kV, aeq, aindex, hne0, hne1, abuild, placesOf, List.range, List.range.loop, onW_t, onW_f, onV_s]; first | (refine hA _ _ _ ?_ (by first | exact .inl (by decide) | exact .inr (.inl rfl) | exact .inr (.inr rfl)) (by first | exact .inl (by decide) | exact .inr (.inl (by decide)) | exact .inr (.inr fun s2 => by simp [F18, F17, F16, F15, F14, F13, pShown, pProj, pSameT, pSameV, decI, g0, g1, g5, g7, ti22, ti27, ti3, ti28, ti34, ti5, abuiltin, alen, alenOk, abuildSlice, afill, chunks, elemOfT, elemId, hL, b1, b2, b3, aextract, hlt, hl0, hul, hp, hpk, hrem, hconv, aconv, aconvert, hkk, htk, htk2, hk1, hk2, hk3, hself, hgs, hLL, bare_cs_len, cstake, csck, csq, kV, aeq, aindex, hne0, hne1, abuild, placesOf, List.range, List.range.loop])) ?_; (focus (first | (simp [F18, F17, F16, F15, F14, F13, pShown, pProj, pSameT, pSameV, decI, g0, g1, g5, g7, ti22, ti27, ti3, ti28, ti34, ti5, abuiltin, alen, alenOk, abuildSlice, afill, chunks, elemOfT, elemId, hL, b1, b2, b3, aextract, hlt, hl0, hul, hp, hpk, hrem, hconv, aconv, aconvert, hkk, htk, htk2, hk1, hk2, hk3, hself, hgs, hLL, bare_cs_len, cstake, csck, csq, kV, aeq, aindex, hne0, hne1, abuild, placesOf, List.range, List.range.loop]; done) | (simp [F18, F17, F16, F15, F14, F13, pShown, pProj, pSameT, pSameV, decI, g0, g1, g5, g7, ti22, ti27, ti3, ti28, ti34, ti5, abuiltin, alen, alenOk, abuildSlice, afill, chunks, elemOfT, elemId, hL, b1, b2, b3, aextract, hlt, hl0, hul, hp, hpk, hrem, hconv, aconv, aconvert, hkk, htk, htk2, hk1, hk2, hk3, hself, hgs, hLL, bare_cs_len, cstake, csck, csq, kV, aeq, aindex, hne0, hne1, abuild, placesOf, List.range, List.range.loop]; omega))); clear hA hB A B) | (refine hB ?_; clear hA hB A B))
        | (refine RQ.st fun A B hA hB => ?_; simp [F18, F17, F16, F15, F14, F13, pShown, pProj, pSameT, pSameV, decI, g0, g1, g5, g7, ti22, ti27, ti3, ti28, ti34, ti5, abuiltin, alen, alenOk, abuildSlice, afill, chunks, elemOfT, elemId, hL, b1, b2, b3, aextract, hlt, hl0, hul, hp, hpk, hrem, hconv, aconv, aconvert, hkk, htk, htk2, hk1, hk2, hk3, hself, hgs, hLL, bare_cs_len, cstake, csck, csq, kV, aeq, aindex, hne0, hne1, abuild, placesOf, List.range, List.range.loop, onW_t, onW_f, onV_s]; first | (refine hA _ _ _ ?_ (by first | exact .inl rfl | exact .inr (by decide)) ?_; (focus (first | (simp [F18, F17, F16, F15, F14, F13, pShown, pProj, pSameT, pSameV, decI, g0, g1, g5, g7, ti22, ti27, ti3, ti28, ti34, ti5, abuiltin, alen, alenOk, abuildSlice, afill, chunks, elemOfT, elemId, hL, b1, b2, b3, aextract, hlt, hl0, hul, hp, hpk, hrem, hconv, aconv, aconvert, hkk, htk, htk2, hk1, hk2, hk3, hself, hgs, hLL, bare_cs_len, cstake, csck, csq, kV, aeq, aindex, hne0, hne1, abuild, placesOf, List.range, List.range.loop]; done) | (simp [F18, F17, F16, F15, F14, F13, pShown, pProj, pSameT, pSameV, decI, g0, g1, g5, g7, ti22, ti27, ti3, ti28, ti34, ti5, abuiltin, alen, alenOk, abuildSlice, afill, chunks, elemOfT, elemId, hL, b1, b2, b3, aextract, hlt, hl0, hul, hp, hpk, hrem, hconv, aconv, aconvert, hkk, htk, htk2, hk1, hk2, hk3, hself, hgs, hLL, bare_cs_len, cstake, csck, csq, kV, aeq, aindex, hne0, hne1, abuild, placesOf, List.range, List.range.loop]; omega))); clear hA hB A B) | (refine hB ?_; clear hA hB A B))
        | refine WP.sr fun k hk => ?_ | refine WP.r fun k hk => ?_ | refine WP.sd _ rfl fun k hk => ?_ | refine WP.d _ rfl fun k hk => ?_
        | (refine WP.cc fun A B hA hB => ?_; simp [F18, F17, F16, F15, F14, F13, pShown, pProj, pSameT, pSameV, decI, g0, g1, g5, g7, ti22, ti27, ti3, ti28, ti34, ti5, abuiltin, alen, alenOk, abuildSlice, afill, chunks, elemOfT, elemId, hL, b1, b2, b3, aextract, hlt, hl0, hul, hp, hpk, hrem, hconv, aconv, aconvert, hkk, htk, htk2, hk1, hk2, hk3, hself, hgs, hLL, bare_cs_len, cstake, csck, csq, kV, aeq, aindex, hne0, hne1, abuild, placesOf, List.range, List.range.loop, onB_t, onB_f]; first | (refine hA ?_; clear hA hB A B) | (refine hB ?_; clear hA hB A B) | (refine onB_if (fun h => hA ?_) (fun h => hB ?_) <;> clear hA hB A B))
        | refine WP.q ?_ | refine WP.b ?_)
      simp
end
end Go.Am
