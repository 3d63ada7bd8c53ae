/-
  PROVED: lambrequinlaw03.TupleBack (its second form's card): a row is told from its key as it was; a text that is one has the key that it is: the law returns true, and its arguments read as they did.
  CONDITIONS: those of the given statement alone: what is read is of bulk at most 1048576, and the listed package-level variables stand as the program's text lays them (the given tie).
-/
import Derived.Test.YtnpidlhooilddaaDoorAmGl
import Derived.Test.YtnpidlhooilddaaDoorAmPl
import Derived.Test.YtnpidlhooilddaaDoorAmTG
import Derived.Test.YtnpidlhooilddaaDoorCards
import Derived.Test.YtnpidlhooilddaaDoorTie
import Derived.ProofKit
import Derived.Deep.DeepHandedRow
import Derived.LaidSub
import Derived.MakeChecks
import Derived.Lay
set_option linter.unusedSimpArgs false
set_option linter.unusedVariables false
set_option linter.unusedSectionVars false
namespace Go.Am.tupleBackP
open Go.Am Go.Proofs Go.ChangeShapes Go.WideShapes Go.RowKit
open Go.Proofs.YtnpidlhooilddaaDoor

theorem tens_laid {W : World} (h : laidMetH Tryd.prog Rows.tupleBackUptoRow.laid W) : Tens W := by
  have h1 := laidMetH.filter (fun x => x.1 == "internal/strconv.uint64pow10") h
  have h2 : laidMet Tryd.prog [("internal/strconv.uint64pow10", Lib.tabData .u64 Lib.pow10Tab)] W := by
    rw [← MakeChecks.laidMetH_plain _ _ _ (by kernel_rfl)]
    exact h1
  exact Lib.tabIs_of_head (t := 96) (e := 84) (n := 20) gTens (by kernel_rfl) Tryd.underlying96 Tryd.underlying84 (by kernel_rfl) (by kernel_rfl) h2
theorem pos_of_tens {W : World} (h : Tens W) : 0 < W.heap.size := by
  unfold Tens Lib.TabIs World.var? at h
  rw [gTens] at h
  simp only [Option.bind_some] at h
  cases hh : W.heap[0]? with
  | none => rw [hh] at h; cases h
  | some o => exact (Array.getElem?_eq_some_iff.1 hh).1

theorem iface_of_trod {P : Program} {w : World} {t : TypeId} {ms : Array (String × TypeId)} {fuel : Nat} {cs : List Value} {n : String} {d : DataW Unit} {p : List MemPlace} {sp : Nat → Bool}
    (ht : P.underlying t = some (.interface ms)) (h : DataW.trod (fun _ => ()) P w 0 sp false fuel t cs = some (.iface n d, p)) : ∃ u v, cs = [.iface u v] := by
  cases fuel with
  | zero => simp [DataW.trod] at h
  | succ k =>
    unfold DataW.trod at h
    rw [ht] at h
    split at h <;> simp_all
theorem iface_laid {W : World} {name : String} {n : String} {d : DataW Unit} {g : Nat} (hg : Tryd.prog.globalNamed name = some g) (hty : (Tryd.prog.globals[g]?).map (·.type) = some 57)
    (h : laidMet Tryd.prog [(name, .iface n d)] W) : ∃ te pe, W.cell? ⟨g, 0, none⟩ = some (.iface te pe) := by
  obtain ⟨ps, ⟨g', t', cs, fuel, p, q, hg', ht', hvar, hd, _, _⟩, _⟩ := h
  obtain rfl := Option.some.inj (hg.symm.trans hg')
  obtain rfl := Option.some.inj (hty.symm.trans ht')
  obtain ⟨u, v, hc⟩ := iface_of_trod Tryd.underlying57 hd
  refine ⟨u, v, ?_⟩
  have := World.var?_cell hg hvar 0
  rw [this, ← Array.getElem?_toList, hc]
  rfl
theorem errs_laid {W : World} (h : laidMetH Tryd.prog Rows.tupleBackUptoRow.laid W) (hsh : W.ShapedOpen Tryd.prog) : Errs W where
  max := Tryd.laysCutM.s1_3 W hsh
  syn := by
    have h1 := laidMetH.filter (fun x => x.1 == "strconv.ErrSyntax") h
    have h2 : laidMet Tryd.prog [("strconv.ErrSyntax", Rows.laid_strconv_ErrSyntax)] W := by
      rw [← MakeChecks.laidMetH_plain _ _ _ (by kernel_rfl)]
      exact h1
    exact iface_laid (by kernel_rfl) (by kernel_rfl) h2
  rng := by
    have h1 := laidMetH.filter (fun x => x.1 == "strconv.ErrRange") h
    have h2 : laidMet Tryd.prog [("strconv.ErrRange", Rows.laid_strconv_ErrRange)] W := by
      rw [← MakeChecks.laidMetH_plain _ _ _ (by kernel_rfl)]
      exact h1
    exact iface_laid (by kernel_rfl) (by kernel_rfl) h2
theorem big_of_errs {W : World} (h : Errs W) : 3 < W.heap.size := by
  obtain ⟨te, pe, h3⟩ := h.rng
  exact World.block_lt_of_cell? W _ h3

theorem argsOk : ∀ t ∈ Tryd.f8.params.toList, Tryd.prog.readableRec t = true ∧ t < Tryd.prog.types.size := by
  rw [Tryd.params8]
  intro t ht
  simp at ht
  rcases ht with rfl | rfl <;> exact ⟨by kernel_rfl, of_decide_eq_true (by kernel_rfl)⟩

set_option maxRecDepth 100000 in
theorem contract (H : Type) (enc : TypeId × Value → H) (W : World) (base : Nat) (args : Array Value) (ds gs : List (DataW H)) (before : List MemPlace)
    (hval : ∀ (j : Nat) t v, Tryd.f8.params[j]? = some t → args[j]? = some v → Value.okWide Tryd.prog W .any base t v)
    (hW : DataW.Whole enc Tryd.prog Tryd.f8.params.toList Rows.tupleBackSpec.vars false W args.toList ds gs before) (hb : Rows.uptoSmall H (ds ++ gs) = true) (hL : Tens W) (hE : Errs W) :
    Calls Tryd.prog 8 args W fun e W' => ∃ v, e = .returned v ∧ Rows.tupleBackSpec.post enc Tryd.prog Tryd.f8 false true false false W args v W' := by
  have hW0 := hW
  obtain ⟨p, q, hA, hV, rfl, _, _⟩ := hW
  obtain ⟨rfl, rfl⟩ := trodVars_none hV
  rw [Tryd.params8] at hA hval
  obtain ⟨v0, v1, d0, d1, p0, p1, rfl, rfl, rfl, h0, h1⟩ := trodAll_two hA
  obtain ⟨a, s0, hv0⟩ := Rd.arg rdT Tryd.underlying22 rfl (hval 0 22 v0 rfl rfl) h0
  obtain ⟨b, s1, hv1⟩ := Rd.arg (Rd.str Tryd.underlying9 cells9) Tryd.underlying9 rfl (hval 1 9 v1 rfl rfl) h1
  have hB := of_decide_eq_true hb
  simp only [List.append_nil, Rows.uptoBulkAll] at hB
  simp only [bulk] at s0 s1
  have vrs : VRs mu0 st0 W [.sl ((a.map (·.1)).map V.cs), .str b] #[v0, v1] := ⟨rfl, fun i x v hx hv => by
    match i, hx, hv with
    | 0, hx, hv => simp at hx hv; subst hx; subst hv; simpa using hv0
    | 1, hx, hv => simp at hx hv; subst hx; subst hv; simpa using hv1⟩
  have oa := ok_of_sum a (by omega)
  have hla := len_sum a
  have hks := key_sum a (by omega)
  have hb' : backA (keyT (a.map (·.1))) = .tup [.sl (((a.map (·.1)).map bareV).map V.cs), .int .i64 0] := by
    have h1 : backS (keyT (a.map (·.1))) = some ((a.map (·.1)).map bareV) := back_key _ _ (fun v hv => by
      obtain ⟨x, hx, rfl⟩ := List.mem_map.1 hv
      have := le_sum_of_mem a x hx
      have h1 : x.1.s.length + 4 = x.sz := rfl
      exact ⟨x.2, by omega⟩) (Nat.lt_succ_self _)
    unfold backA
    rw [h1]
    simp only
    rw [if_pos (key_bare _)]
  refine law_lift rfl argsOk rfl hW0 rfl rfl rfl vrs
    (ft8 (big_of_errs hE) hL hE _ ((a.map (·.1)).map bareV) _ oa (by omega) (by omega) hb' (by rw [List.length_map, List.length_map]; unfold LIM; omega) ((cmpT_key _ _).2 (key_bare _)))

theorem own : ownKnob Tryd.prog.godebug = none := by kernel_rfl
/-- A world for the witness: the settled one, the tables laid. -/
noncomputable abbrev laidW (os : Os) : World := World.laidAll Tryd.prog os Rows.tupleBackUptoRow.laid
abbrev nilArgs : Array Value := #[.slice none 0 0, .string ⟨#[]⟩]
theorem laid_met (os : Os) : laidMet Tryd.prog Rows.tupleBackUptoRow.laid ((laidW os).forCall (fun _ _ => 0) ⟨#[], nilArgs, []⟩).memory :=
  laidMet_laidAll nilArgs (by kernel_rfl) (by kernel_rfl)
theorem reads (os : Os) {H : Type} (enc : TypeId × Value → H) : ∃ places, DataW.whole enc Tryd.prog ((laidW os).forCall (fun _ _ => 0) ⟨#[], nilArgs, []⟩).memory Tryd.f8.params.toList Rows.tupleBackSpec.vars false nilArgs.toList 8 = some ([.nil, .lit (.string [])], [], places) :=
  ⟨[], by kernel_rfl⟩
set_option maxRecDepth 100000 in
theorem lifted (os : Os) (started : os.Started) (H : Type) (enc : TypeId × Value → H) (F : Stop.Interp) :
    ReturnsInHanded {} Tryd.checked os 8 .any ((Rows.OpenSpec.upto Rows.tupleBackSpec).preRow enc Tryd.prog Tryd.f8 Rows.tupleBackUptoRow.domain false Rows.tupleBackUptoRow.laid) (((Rows.OpenSpec.upto Rows.tupleBackSpec).at F).post enc Tryd.prog Tryd.f8 false true false false) := by
  obtain ⟨places, hx⟩ := reads os enc
  refine returnsInHanded_of_row (C := Tryd.checked) (s := Rows.OpenSpec.upto Rows.tupleBackSpec) own started (by kernel_rfl) Tryd.func8
    (witness_row_at (enc := enc) (C := Tryd.checked) false (laidW os) nilArgs (World.laidAll_os _ _ _) (by kernel_rfl) (by kernel_rfl) (by kernel_rfl)
      (OpenSpec.preRow_of_cond 8 hx (by kernel_rfl) (fun k hk => by cases hk; kernel_rfl) (by kernel_rfl) (laid_met os))) ?_
  intro W base args ds gs before hval hW _ hcond _ hL hsh _
  exact contract H enc W base args ds gs before hval hW (hcond _ rfl) (tens_laid hL) (errs_laid hL hsh)
theorem saidUpto : Rows.TupleBackUptoSaid :=
  OpenClaim.holds_of_cond 8 Tryd.f8 rfl rfl rfl rfl rfl rfl rfl ⟨rfl, rfl, rfl, rfl, rfl⟩ rfl rfl rfl rfl rfl (by kernel_rfl) Tryd.func8 (by kernel_rfl)
    (of_decide_eq_true (by kernel_rfl)) (by unfold Func.isWrapper; first | (rw [if_pos (by decide +kernel)]; kernel_rfl) | (rw [if_neg (by decide +kernel)]; exact ⟨rfl, rfl⟩))
    (fun os started H enc _ F => by rw [OpenClaim.pre_eq_preRow]; exact lifted os started H enc F)
theorem plain (f : FuncId) (fn : Func) (hf : Tryd.pinned.checked.prog.funcNamed "lambrequin/lambrequinlaw03.TupleBack" = some f) (hfn : Tryd.pinned.checked.prog.funcs[f]? = some fn) :
    true = Tryd.pinned.checked.prog.looks [] ∧ ∀ (j : Nat) t, fn.params[j]? = some t → Tryd.pinned.checked.prog.wantsStandIn t = false := by
  obtain rfl : f = 8 := Option.some.inj ((show Tryd.prog.funcNamed "lambrequin/lambrequinlaw03.TupleBack" = some 8 by kernel_rfl).symm.trans hf) |>.symm
  obtain rfl : fn = Tryd.f8 := (Option.some.inj (Tryd.func8.symm.trans hfn)).symm
  refine ⟨by kernel_rfl, fun j t ht => ?_⟩
  rw [Tryd.params8] at ht
  have ht' := Array.mem_of_getElem? ht
  simp at ht'
  rcases ht' with rfl | rfl
  · exact (show Tryd.prog.wantsStandIn 22 = false by kernel_rfl)
  · exact (show Tryd.prog.wantsStandIn 9 = false by kernel_rfl)
theorem cardUpto : Rows.TupleBackUptoCardSaid :=
  Claim7.holds_tied_plain_at .later [] _ _ _ _ saidUpto (fun _ h => by cases h) (by kernel_rfl) (fun _ h => by cases h) tupleBackUpto_row_tie rfl ⟨rfl, rfl⟩ (by kernel_rfl) rfl plain (by kernel_rfl)
end Go.Am.tupleBackP
namespace Go.Proofs.YtnpidlhooilddaaDoor
theorem tupleBack_holds : Rows.TupleBackUptoCardSaid := Go.Am.tupleBackP.cardUpto
end Go.Proofs.YtnpidlhooilddaaDoor
