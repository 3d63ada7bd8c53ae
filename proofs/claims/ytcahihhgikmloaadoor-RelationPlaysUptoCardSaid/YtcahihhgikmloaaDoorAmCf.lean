/-
  PROVED: lambrequinlaw04.RelationPlays (its second form's card): whatever rows are added, turned, and matched, the answers, and all rows, are the document's: the law returns true, and its arguments read as they did.
  CONDITIONS: those of the given statement alone: what is read is of bulk at most 1048576, and the listed package-level variables stand as the program's text lays them (the given tie).
-/
import Derived.Test.YtcahihhgikmloaaDoorAmGb
import Derived.Test.YtcahihhgikmloaaDoorCards
import Derived.Test.YtcahihhgikmloaaDoorTie
import Derived.ProofKit
import Derived.Deep.DeepHandedRow
import Derived.LaidSub
import Derived.MakeChecks
import Derived.Lay
set_option linter.unusedSimpArgs false
set_option linter.unusedVariables false
set_option linter.unusedSectionVars false
namespace Go.Am.relationPlaysP
open Go.Am Go.Proofs Go.ChangeShapes Go.WideShapes Go.RowKit
open Go.Proofs.YtcahihhgikmloaaDoor

theorem gw_laid {W : World} (h : laidMetH Tryd.prog Rows.relationPlaysUptoRow.laid W) (hsh : W.ShapedOpen Tryd.prog) : GW W.heap.size W := by
  have tens : Lib.TabIs Tryd.prog W "internal/strconv.uint64pow10" .u64 Lib.pow10Tab := by
    have h1 := laidMetH.filter (fun x => x.1 == "internal/strconv.uint64pow10") h
    have h2 : laidMet Tryd.prog [("internal/strconv.uint64pow10", Lib.tabData .u64 Lib.pow10Tab)] W := by
      rw [← MakeChecks.laidMetH_plain _ _ _ (by kernel_rfl)]
      exact h1
    exact Lib.tabIs_of_head (t := 127) (e := 116) (n := 20) gTens (by kernel_rfl) Tryd.underlying127 Tryd.underlying116 (by kernel_rfl) (by kernel_rfl) h2
  have hT : Tens W := tens
  exact ⟨pos_of_tens hT, hT⟩
theorem argsOk : ∀ t ∈ Tryd.f6.params.toList, Tryd.prog.readableRec t = true ∧ t < Tryd.prog.types.size := by
  rw [Tryd.params6]
  intro t ht
  simp at ht
  rcases ht with rfl | rfl <;> exact ⟨by kernel_rfl, of_decide_eq_true (by kernel_rfl)⟩

set_option maxRecDepth 100000 in
theorem contract (H : Type) (enc : TypeId × Value → H) (W : World) (base : Nat) (args : Array Value) (ds gs : List (DataW H)) (before : List MemPlace)
    (hval : ∀ (j : Nat) t v, Tryd.f6.params[j]? = some t → args[j]? = some v → Value.okWide Tryd.prog W .any base t v)
    (hW : DataW.Whole enc Tryd.prog Tryd.f6.params.toList Rows.relationPlaysSpec.vars false W args.toList ds gs before) (hb : Rows.uptoSmall H (ds ++ gs) = true) (hG : GW W.heap.size W) :
    Calls Tryd.prog 6 args W fun e W' => ∃ v, e = .returned v ∧ Rows.relationPlaysSpec.post enc Tryd.prog Tryd.f6 false true false false W args v W' := by
  have hW0 := hW
  obtain ⟨p, q, hA, hV, rfl, _, _⟩ := hW
  obtain ⟨rfl, rfl⟩ := trodVars_none hV
  rw [Tryd.params6] at hA hval
  obtain ⟨v0, v1, d0, d1, p0, p1, rfl, rfl, rfl, h0, h1⟩ := trodAll_two hA
  obtain ⟨a, s0, hv0⟩ := Rd.arg (Rd.int (k := .u8) Tryd.underlying5 cells5) Tryd.underlying5 rfl (hval 0 5 v0 rfl rfl) h0
  obtain ⟨b, s1, hv1⟩ := Rd.arg rdL Tryd.underlying47 rfl (hval 1 47 v1 rfl rfl) h1
  have hB := of_decide_eq_true hb
  simp only [List.append_nil, Rows.uptoBulkAll] at hB
  simp only [bulk] at s0 s1
  have vrs : VRs mu0 st0 W [.int .u8 a.1, .sl (deeds (b.map DX.de))] #[v0, v1] := ⟨rfl, fun i x v hx hv => by
    match i, hx, hv with
    | 0, hx, hv => simp at hx hv; subst hx; subst hv; simpa using hv0
    | 1, hx, hv => simp at hx hv; subst hx; subst hv; simpa using hv1⟩
  refine law_lift rfl argsOk rfl hW0 rfl rfl rfl vrs (ft_Plays hG.1 hG.2 _ (bounds_u8 a.2).1 (by have := (bounds_u8 a.2).2; omega) _ (dx_ok b (by omega)).1 (dx_ok b (by omega)).2)

theorem own : ownKnob Tryd.prog.godebug = none := by kernel_rfl
/-- A world for the witness: the settled one, the tables laid. -/
noncomputable abbrev laidW (os : Os) : World := World.laidAll Tryd.prog os Rows.relationPlaysUptoRow.laid
abbrev nilArgs : Array Value := #[.int .u8 0, .slice none 0 0]
theorem laid_met (os : Os) : laidMet Tryd.prog Rows.relationPlaysUptoRow.laid ((laidW os).forCall (fun _ _ => 0) ⟨#[], nilArgs, []⟩).memory :=
  laidMet_laidAll nilArgs (by kernel_rfl) (by kernel_rfl)
theorem reads (os : Os) {H : Type} (enc : TypeId × Value → H) : ∃ places, DataW.whole enc Tryd.prog ((laidW os).forCall (fun _ _ => 0) ⟨#[], nilArgs, []⟩).memory Tryd.f6.params.toList Rows.relationPlaysSpec.vars false nilArgs.toList 8 = some ([.lit (.int .u8 0), .nil], [], places) :=
  ⟨[], by kernel_rfl⟩
set_option maxRecDepth 100000 in
theorem lifted (os : Os) (started : os.Started) (H : Type) (enc : TypeId × Value → H) (F : Stop.Interp) :
    ReturnsInHanded {} Tryd.checked os 6 .any ((Rows.OpenSpec.upto Rows.relationPlaysSpec).preRow enc Tryd.prog Tryd.f6 Rows.relationPlaysUptoRow.domain false Rows.relationPlaysUptoRow.laid) (((Rows.OpenSpec.upto Rows.relationPlaysSpec).at F).post enc Tryd.prog Tryd.f6 false true false false) := by
  obtain ⟨places, hx⟩ := reads os enc
  refine returnsInHanded_of_row (C := Tryd.checked) (s := Rows.OpenSpec.upto Rows.relationPlaysSpec) own started (by kernel_rfl) Tryd.func6
    (witness_row_at (enc := enc) (C := Tryd.checked) false (laidW os) nilArgs (World.laidAll_os _ _ _) (by kernel_rfl) (by kernel_rfl) (by kernel_rfl)
      (OpenSpec.preRow_of_cond 8 hx (by kernel_rfl) (fun k hk => by cases hk; kernel_rfl) (by kernel_rfl) (laid_met os))) ?_
  intro W base args ds gs before hval hW _ hcond _ hL hsh _
  exact contract H enc W base args ds gs before hval hW (hcond _ rfl) (gw_laid hL hsh)
theorem saidUpto : Rows.RelationPlaysUptoSaid :=
  OpenClaim.holds_of_cond 6 Tryd.f6 rfl rfl rfl rfl rfl rfl rfl ⟨rfl, rfl, rfl, rfl, rfl⟩ rfl rfl rfl rfl rfl (by kernel_rfl) Tryd.func6 (by kernel_rfl)
    (of_decide_eq_true (by kernel_rfl)) (by unfold Func.isWrapper; first | (rw [if_pos (by decide +kernel)]; kernel_rfl) | (rw [if_neg (by decide +kernel)]; exact ⟨rfl, rfl⟩))
    (fun os started H enc _ F => by rw [OpenClaim.pre_eq_preRow]; exact lifted os started H enc F)
theorem plain (f : FuncId) (fn : Func) (hf : Tryd.pinned.checked.prog.funcNamed "lambrequin/lambrequinlaw04.RelationPlays" = some f) (hfn : Tryd.pinned.checked.prog.funcs[f]? = some fn) :
    false = Tryd.pinned.checked.prog.looks [] ∧ ∀ (j : Nat) t, fn.params[j]? = some t → Tryd.pinned.checked.prog.wantsStandIn t = false := by
  obtain rfl : f = 6 := Option.some.inj ((show Tryd.prog.funcNamed "lambrequin/lambrequinlaw04.RelationPlays" = some 6 by kernel_rfl).symm.trans hf) |>.symm
  obtain rfl : fn = Tryd.f6 := (Option.some.inj (Tryd.func6.symm.trans hfn)).symm
  refine ⟨by kernel_rfl, fun j t ht => ?_⟩
  rw [Tryd.params6] at ht
  have ht' := Array.mem_of_getElem? ht
  simp at ht'
  rcases ht' with rfl | rfl
  · exact (show Tryd.prog.wantsStandIn 5 = false by kernel_rfl)
  · exact (show Tryd.prog.wantsStandIn 47 = false by kernel_rfl)
theorem cardUpto : Rows.RelationPlaysUptoCardSaid :=
  Claim7.holds_tied_plain_at .later [] _ _ _ _ saidUpto (fun _ h => by cases h) (by kernel_rfl) (fun _ h => by cases h) relationPlaysUpto_row_tie rfl ⟨rfl, rfl⟩ (by kernel_rfl) rfl plain (by kernel_rfl)
end Go.Am.relationPlaysP
namespace Go.Proofs.YtcahihhgikmloaaDoor
theorem relationPlays_holds : Rows.RelationPlaysUptoCardSaid := Go.Am.relationPlaysP.cardUpto
end Go.Proofs.YtcahihhgikmloaaDoor
