/-
  PROVED: lambrequinlaw19.IrLines (its second form's card): a flow's lines stand each by itself, and a bad line is told by its number: the law returns true, and its arguments read as they did.
  CONDITIONS: those of the given statement alone: what is read is of bulk at most 1048576, and the listed package-level variables stand as the program's text lays them (the given tie).
-/
import Derived.Test.YtkfociekgeldnaaDoorAmGa
import Derived.Test.YtkfociekgeldnaaDoorAmLc
import Derived.Test.YtkfociekgeldnaaDoorCards
import Derived.Test.YtkfociekgeldnaaDoorTie
import Derived.ProofKit
import Derived.Deep.DeepHandedRow
import Derived.LaidSub
import Derived.MakeChecks
import Derived.Lay
set_option linter.unusedSimpArgs false
set_option linter.unusedVariables false
set_option linter.unusedSectionVars false
namespace Go.Am.irLinesP
open Go.Am Go.Proofs Go.ChangeShapes Go.WideShapes Go.RowKit
open Go.Proofs.YtkfociekgeldnaaDoor

theorem gw_laid {W : World} (h : laidMetH Tryd.prog Rows.irLinesUptoRow.laid W) (hsh : W.ShapedOpen Tryd.prog) : GW W.heap.size W := by
  have syn : ∃ te pe, W.cell? ⟨4, 0, none⟩ = some (.iface te pe) := by
    have h1 := laidMetH.filter (fun x => x.1 == "strconv.ErrSyntax") h
    have h2 : laidMet Tryd.prog [("strconv.ErrSyntax", Rows.laid_strconv_ErrSyntax)] W := by
      rw [← MakeChecks.laidMetH_plain _ _ _ (by kernel_rfl)]
      exact h1
    exact iface_laid (by kernel_rfl) (by kernel_rfl) h2
  have rng : ∃ te pe, W.cell? ⟨5, 0, none⟩ = some (.iface te pe) := by
    have h1 := laidMetH.filter (fun x => x.1 == "strconv.ErrRange") h
    have h2 : laidMet Tryd.prog [("strconv.ErrRange", Rows.laid_strconv_ErrRange)] W := by
      rw [← MakeChecks.laidMetH_plain _ _ _ (by kernel_rfl)]
      exact h1
    exact iface_laid (by kernel_rfl) (by kernel_rfl) h2
  have tens : Lib.TabIs Tryd.prog W "internal/strconv.uint64pow10" .u64 Lib.pow10Tab := by
    have h1 := laidMetH.filter (fun x => x.1 == "internal/strconv.uint64pow10") h
    have h2 : laidMet Tryd.prog [("internal/strconv.uint64pow10", Lib.tabData .u64 Lib.pow10Tab)] W := by
      rw [← MakeChecks.laidMetH_plain _ _ _ (by kernel_rfl)]
      exact h1
    exact Lib.tabIs_of_head (t := 105) (e := 91) (n := 20) gTens (by kernel_rfl) Tryd.underlying105 Tryd.underlying91 (by kernel_rfl) (by kernel_rfl) h2
  refine ⟨?_, Tryd.laysSplitM.s1_3 W hsh, tens, syn, rng⟩
  obtain ⟨te, pe, h5⟩ := rng
  exact World.block_lt_of_cell? W _ h5
theorem argsOk : ∀ t ∈ Tryd.f9.params.toList, Tryd.prog.readableRec t = true ∧ t < Tryd.prog.types.size := by
  rw [Tryd.params9]
  intro t ht
  simp at ht
  rcases ht with rfl | rfl | rfl <;> exact ⟨by kernel_rfl, of_decide_eq_true (by kernel_rfl)⟩

set_option maxRecDepth 100000 in
theorem contract (H : Type) (enc : TypeId × Value → H) (W : World) (base : Nat) (args : Array Value) (ds gs : List (DataW H)) (before : List MemPlace)
    (hval : ∀ (j : Nat) t v, Tryd.f9.params[j]? = some t → args[j]? = some v → Value.okWide Tryd.prog W .any base t v)
    (hW : DataW.Whole enc Tryd.prog Tryd.f9.params.toList Rows.irLinesSpec.vars false W args.toList ds gs before) (hb : Rows.uptoSmall H (ds ++ gs) = true) (hG : GW W.heap.size W) :
    Calls Tryd.prog 9 args W fun e W' => ∃ v, e = .returned v ∧ Rows.irLinesSpec.post enc Tryd.prog Tryd.f9 false true false false W args v W' := by
  have hW0 := hW
  obtain ⟨p, q, hA, hV, rfl, _, _⟩ := hW
  obtain ⟨rfl, rfl⟩ := trodVars_none hV
  rw [Tryd.params9] at hA hval
  obtain ⟨v0, v1, v2, d0, d1, d2, p0, p1, p2, rfl, rfl, rfl, h0, h1, h2⟩ := trodAll_three hA
  obtain ⟨a, s0, hv0⟩ := Rd.arg rdSS Tryd.underlying23 rfl (hval 0 23 v0 rfl rfl) h0
  obtain ⟨b, s1, hv1⟩ := Rd.arg (Rd.str Tryd.underlying9 cells9) Tryd.underlying9 rfl (hval 1 9 v1 rfl rfl) h1
  obtain ⟨c, s2, hv2⟩ := Rd.arg (Rd.int (k := .u8) Tryd.underlying5 cells5) Tryd.underlying5 rfl (hval 2 5 v2 rfl rfl) h2
  have hB := of_decide_eq_true hb
  simp only [List.append_nil, Rows.uptoBulkAll] at hB
  simp only [bulk] at s0 s1 s2
  have vrs : VRs mu0 st0 W [.sl ((a.map (·.1)).map Sm.cs), .str b, .int .u8 c.1] #[v0, v1, v2] := ⟨rfl, fun i x v hx hv => by
    match i, hx, hv with
    | 0, hx, hv => simp at hx hv; subst hx; subst hv; simpa using hv0
    | 1, hx, hv => simp at hx hv; subst hx; subst hv; simpa using hv1
    | 2, hx, hv => simp at hx hv; subst hx; subst hv; simpa using hv2⟩
  have ol := okL_of a (by omega)
  have hu := bounds_u8 c.2
  have hb1 : (c.1.toNat : Int) = c.1 := by omega
  rw [← hb1] at vrs
  refine law_lift rfl argsOk rfl hW0 rfl rfl rfl vrs (ft_IrLines hG _ _ c.1.toNat ol (by simp only [LIM]; omega) (by omega))

theorem own : ownKnob Tryd.prog.godebug = none := by kernel_rfl
/-- A world for the witness: the settled one, the tables laid. -/
noncomputable abbrev laidW (os : Os) : World := World.laidAll Tryd.prog os Rows.irLinesUptoRow.laid
abbrev nilArgs : Array Value := #[.slice none 0 0, .string ⟨#[]⟩, .int .u8 0]
theorem laid_met (os : Os) : laidMet Tryd.prog Rows.irLinesUptoRow.laid ((laidW os).forCall (fun _ _ => 0) ⟨#[], nilArgs, []⟩).memory :=
  laidMet_laidAll nilArgs (by kernel_rfl) (by kernel_rfl)
theorem reads (os : Os) {H : Type} (enc : TypeId × Value → H) : ∃ places, DataW.whole enc Tryd.prog ((laidW os).forCall (fun _ _ => 0) ⟨#[], nilArgs, []⟩).memory Tryd.f9.params.toList Rows.irLinesSpec.vars false nilArgs.toList 8 = some ([.nil, .lit (.string []), .lit (.int .u8 0)], [], places) :=
  ⟨[], by kernel_rfl⟩
set_option maxRecDepth 100000 in
theorem lifted (os : Os) (started : os.Started) (H : Type) (enc : TypeId × Value → H) (F : Stop.Interp) :
    ReturnsInHanded {} Tryd.checked os 9 .any ((Rows.OpenSpec.upto Rows.irLinesSpec).preRow enc Tryd.prog Tryd.f9 Rows.irLinesUptoRow.domain false Rows.irLinesUptoRow.laid) (((Rows.OpenSpec.upto Rows.irLinesSpec).at F).post enc Tryd.prog Tryd.f9 false true false false) := by
  obtain ⟨places, hx⟩ := reads os enc
  refine returnsInHanded_of_row (C := Tryd.checked) (s := Rows.OpenSpec.upto Rows.irLinesSpec) own started (by kernel_rfl) Tryd.func9
    (witness_row_at (enc := enc) (C := Tryd.checked) false (laidW os) nilArgs (World.laidAll_os _ _ _) (by kernel_rfl) (by kernel_rfl) (by kernel_rfl)
      (OpenSpec.preRow_of_cond 8 hx (by kernel_rfl) (fun k hk => by cases hk; kernel_rfl) (by kernel_rfl) (laid_met os))) ?_
  intro W base args ds gs before hval hW _ hcond _ hL hsh _
  exact contract H enc W base args ds gs before hval hW (hcond _ rfl) (gw_laid hL hsh)
theorem saidUpto : Rows.IrLinesUptoSaid :=
  OpenClaim.holds_of_cond 9 Tryd.f9 rfl rfl rfl rfl rfl rfl rfl ⟨rfl, rfl, rfl, rfl, rfl⟩ rfl rfl rfl rfl rfl (by kernel_rfl) Tryd.func9 (by kernel_rfl)
    (of_decide_eq_true (by kernel_rfl)) (by unfold Func.isWrapper; first | (rw [if_pos (by decide +kernel)]; kernel_rfl) | (rw [if_neg (by decide +kernel)]; exact ⟨rfl, rfl⟩))
    (fun os started H enc _ F => by rw [OpenClaim.pre_eq_preRow]; exact lifted os started H enc F)
theorem plain (f : FuncId) (fn : Func) (hf : Tryd.pinned.checked.prog.funcNamed "lambrequin/lambrequinlaw19.IrLines" = some f) (hfn : Tryd.pinned.checked.prog.funcs[f]? = some fn) :
    true = Tryd.pinned.checked.prog.looks [] ∧ ∀ (j : Nat) t, fn.params[j]? = some t → Tryd.pinned.checked.prog.wantsStandIn t = false := by
  obtain rfl : f = 9 := Option.some.inj ((show Tryd.prog.funcNamed "lambrequin/lambrequinlaw19.IrLines" = some 9 by kernel_rfl).symm.trans hf) |>.symm
  obtain rfl : fn = Tryd.f9 := (Option.some.inj (Tryd.func9.symm.trans hfn)).symm
  refine ⟨by kernel_rfl, fun j t ht => ?_⟩
  rw [Tryd.params9] at ht
  have ht' := Array.mem_of_getElem? ht
  simp at ht'
  rcases ht' with rfl | rfl | rfl
  · exact (show Tryd.prog.wantsStandIn 23 = false by kernel_rfl)
  · exact (show Tryd.prog.wantsStandIn 9 = false by kernel_rfl)
  · exact (show Tryd.prog.wantsStandIn 5 = false by kernel_rfl)
theorem cardUpto : Rows.IrLinesUptoCardSaid :=
  Claim7.holds_tied_plain_at .later [] _ _ _ _ saidUpto (fun _ h => by cases h) (by kernel_rfl) (fun _ h => by cases h) irLinesUpto_row_tie rfl ⟨rfl, rfl⟩ (by kernel_rfl) rfl plain (by kernel_rfl)
end Go.Am.irLinesP
namespace Go.Proofs.YtkfociekgeldnaaDoor
theorem irLines_holds : Rows.IrLinesUptoCardSaid := Go.Am.irLinesP.cardUpto
end Go.Proofs.YtkfociekgeldnaaDoor
