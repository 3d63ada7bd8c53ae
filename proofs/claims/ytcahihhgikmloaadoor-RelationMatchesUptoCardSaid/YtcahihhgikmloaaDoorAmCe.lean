/-
  PROVED: lambrequinlaw04.RelationMatches (its second form's card): what is matched has the values at their places; each row is matched by its own values: the law returns true, and its arguments read as they did.
  CONDITIONS: those of the given statement alone: what is read is of bulk at most 1048576, and the listed package-level variables stand as the program's text lays them (the given tie).
-/
import Derived.Test.YtcahihhgikmloaaDoorAmGa
import Derived.Test.YtcahihhgikmloaaDoorAmLe
import Derived.Test.YtcahihhgikmloaaDoorCards
import Derived.Test.YtcahihhgikmloaaDoorTie
import Derived.ProofKit
import Derived.Deep.DeepHandedRow
import Derived.LaidSub
import Derived.MakeChecks
import Derived.Lay
set_option linter.unusedSimpArgs false
set_option linter.unusedVariables false
set_option linter.unusedSectionVars false
namespace Go.Am.relationMatchesP
open Go.Am Go.Proofs Go.ChangeShapes Go.WideShapes Go.RowKit
open Go.Proofs.YtcahihhgikmloaaDoor

theorem gw_laid {W : World} (h : laidMetH Tryd.prog Rows.relationMatchesUptoRow.laid W) (hsh : W.ShapedOpen Tryd.prog) : GW W.heap.size W := by
  have tens : Lib.TabIs Tryd.prog W "internal/strconv.uint64pow10" .u64 Lib.pow10Tab := by
    have h1 := laidMetH.filter (fun x => x.1 == "internal/strconv.uint64pow10") h
    have h2 : laidMet Tryd.prog [("internal/strconv.uint64pow10", Lib.tabData .u64 Lib.pow10Tab)] W := by
      rw [← MakeChecks.laidMetH_plain _ _ _ (by kernel_rfl)]
      exact h1
    exact Lib.tabIs_of_head (t := 127) (e := 116) (n := 20) gTens (by kernel_rfl) Tryd.underlying127 Tryd.underlying116 (by kernel_rfl) (by kernel_rfl) h2
  have hT : Tens W := tens
  exact ⟨pos_of_tens hT, hT⟩
theorem argsOk : ∀ t ∈ Tryd.f5.params.toList, Tryd.prog.readableRec t = true ∧ t < Tryd.prog.types.size := by
  rw [Tryd.params5]
  intro t ht
  simp at ht
  rcases ht with rfl | rfl | rfl <;> exact ⟨by kernel_rfl, of_decide_eq_true (by kernel_rfl)⟩

set_option maxRecDepth 100000 in
theorem contract (H : Type) (enc : TypeId × Value → H) (W : World) (base : Nat) (args : Array Value) (ds gs : List (DataW H)) (before : List MemPlace)
    (hval : ∀ (j : Nat) t v, Tryd.f5.params[j]? = some t → args[j]? = some v → Value.okWide Tryd.prog W .any base t v)
    (hW : DataW.Whole enc Tryd.prog Tryd.f5.params.toList Rows.relationMatchesSpec.vars false W args.toList ds gs before) (hb : Rows.uptoSmall H (ds ++ gs) = true) (hG : GW W.heap.size W) :
    Calls Tryd.prog 5 args W fun e W' => ∃ v, e = .returned v ∧ Rows.relationMatchesSpec.post enc Tryd.prog Tryd.f5 false true false false W args v W' := by
  have hW0 := hW
  obtain ⟨p, q, hA, hV, rfl, _, _⟩ := hW
  obtain ⟨rfl, rfl⟩ := trodVars_none hV
  rw [Tryd.params5] at hA hval
  obtain ⟨v0, v1, v2, d0, d1, d2, p0, p1, p2, rfl, rfl, rfl, h0, h1, h2⟩ := trodAll_three hA
  obtain ⟨a, s0, hv0⟩ := Rd.arg rdP Tryd.underlying22 rfl (hval 0 22 v0 rfl rfl) h0
  obtain ⟨b, s1, hv1⟩ := Rd.argA rdV Tryd.underlying25 rfl (hval 1 25 v1 rfl rfl) h1
  obtain ⟨c, s2, hv2⟩ := Rd.arg (Rd.bool Tryd.underlying4 cells4) Tryd.underlying4 rfl (hval 2 4 v2 rfl rfl) h2
  have hB := of_decide_eq_true hb
  simp only [List.append_nil, Rows.uptoBulkAll] at hB
  simp only [bulk] at s0 s1 s2
  have vrs : VRs mu0 st0 W [.sl (pairs (a.map PP.un)), .agg b.1.cs, .bool c] #[v0, v1, v2] := ⟨rfl, fun i x v hx hv => by
    match i, hx, hv with
    | 0, hx, hv => simp at hx hv; subst hx; subst hv; simpa using hv0
    | 1, hx, hv => simp at hx hv; subst hx; subst hv; simpa using hv1
    | 2, hx, hv => simp at hx hv; subst hx; subst hv; simpa using hv2⟩
  refine law_lift rfl argsOk rfl hW0 rfl rfl rfl vrs (ft_Matches hG.1 hG.2 _ _ _ (pp_ok a (by omega)).1 (by simp only [VV.sz] at s1; simp only [LIM]; omega) (pp_ok a (by omega)).2)

theorem own : ownKnob Tryd.prog.godebug = none := by kernel_rfl
/-- A world for the witness: the settled one, the tables laid. -/
noncomputable abbrev laidW (os : Os) : World := World.laidAll Tryd.prog os Rows.relationMatchesUptoRow.laid
abbrev nilArgs : Array Value := #[.slice none 0 0, .agg #[.bool false, .string ⟨#[]⟩, .int .i64 0], .bool false]
theorem laid_met (os : Os) : laidMet Tryd.prog Rows.relationMatchesUptoRow.laid ((laidW os).forCall (fun _ _ => 0) ⟨#[], nilArgs, []⟩).memory :=
  laidMet_laidAll nilArgs (by kernel_rfl) (by kernel_rfl)
theorem reads (os : Os) {H : Type} (enc : TypeId × Value → H) : ∃ places, DataW.whole enc Tryd.prog ((laidW os).forCall (fun _ _ => 0) ⟨#[], nilArgs, []⟩).memory Tryd.f5.params.toList Rows.relationMatchesSpec.vars false nilArgs.toList 8 = some ([.nil, .agg [.lit (.bool false), .lit (.string []), .lit (.int .i64 0)], .lit (.bool false)], [], places) :=
  ⟨[], by kernel_rfl⟩
set_option maxRecDepth 100000 in
theorem lifted (os : Os) (started : os.Started) (H : Type) (enc : TypeId × Value → H) (F : Stop.Interp) :
    ReturnsInHanded {} Tryd.checked os 5 .any ((Rows.OpenSpec.upto Rows.relationMatchesSpec).preRow enc Tryd.prog Tryd.f5 Rows.relationMatchesUptoRow.domain false Rows.relationMatchesUptoRow.laid) (((Rows.OpenSpec.upto Rows.relationMatchesSpec).at F).post enc Tryd.prog Tryd.f5 false true false false) := by
  obtain ⟨places, hx⟩ := reads os enc
  refine returnsInHanded_of_row (C := Tryd.checked) (s := Rows.OpenSpec.upto Rows.relationMatchesSpec) own started (by kernel_rfl) Tryd.func5
    (witness_row_at (enc := enc) (C := Tryd.checked) false (laidW os) nilArgs (World.laidAll_os _ _ _) (by kernel_rfl) (by kernel_rfl) (by kernel_rfl)
      (OpenSpec.preRow_of_cond 8 hx (by kernel_rfl) (fun k hk => by cases hk; kernel_rfl) (by kernel_rfl) (laid_met os))) ?_
  intro W base args ds gs before hval hW _ hcond _ hL hsh _
  exact contract H enc W base args ds gs before hval hW (hcond _ rfl) (gw_laid hL hsh)
theorem saidUpto : Rows.RelationMatchesUptoSaid :=
  OpenClaim.holds_of_cond 5 Tryd.f5 rfl rfl rfl rfl rfl rfl rfl ⟨rfl, rfl, rfl, rfl, rfl⟩ rfl rfl rfl rfl rfl (by kernel_rfl) Tryd.func5 (by kernel_rfl)
    (of_decide_eq_true (by kernel_rfl)) (by unfold Func.isWrapper; first | (rw [if_pos (by decide +kernel)]; kernel_rfl) | (rw [if_neg (by decide +kernel)]; exact ⟨rfl, rfl⟩))
    (fun os started H enc _ F => by rw [OpenClaim.pre_eq_preRow]; exact lifted os started H enc F)
theorem plain (f : FuncId) (fn : Func) (hf : Tryd.pinned.checked.prog.funcNamed "lambrequin/lambrequinlaw04.RelationMatches" = some f) (hfn : Tryd.pinned.checked.prog.funcs[f]? = some fn) :
    false = Tryd.pinned.checked.prog.looks [] ∧ ∀ (j : Nat) t, fn.params[j]? = some t → Tryd.pinned.checked.prog.wantsStandIn t = false := by
  obtain rfl : f = 5 := Option.some.inj ((show Tryd.prog.funcNamed "lambrequin/lambrequinlaw04.RelationMatches" = some 5 by kernel_rfl).symm.trans hf) |>.symm
  obtain rfl : fn = Tryd.f5 := (Option.some.inj (Tryd.func5.symm.trans hfn)).symm
  refine ⟨by kernel_rfl, fun j t ht => ?_⟩
  rw [Tryd.params5] at ht
  have ht' := Array.mem_of_getElem? ht
  simp at ht'
  rcases ht' with rfl | rfl | rfl
  · exact (show Tryd.prog.wantsStandIn 22 = false by kernel_rfl)
  · exact (show Tryd.prog.wantsStandIn 25 = false by kernel_rfl)
  · exact (show Tryd.prog.wantsStandIn 4 = false by kernel_rfl)
theorem cardUpto : Rows.RelationMatchesUptoCardSaid :=
  Claim7.holds_tied_plain_at .later [] _ _ _ _ saidUpto (fun _ h => by cases h) (by kernel_rfl) (fun _ h => by cases h) relationMatchesUpto_row_tie rfl ⟨rfl, rfl⟩ (by kernel_rfl) rfl plain (by kernel_rfl)
end Go.Am.relationMatchesP
namespace Go.Proofs.YtcahihhgikmloaaDoor
theorem relationMatches_holds : Rows.RelationMatchesUptoCardSaid := Go.Am.relationMatchesP.cardUpto
end Go.Proofs.YtcahihhgikmloaaDoor
