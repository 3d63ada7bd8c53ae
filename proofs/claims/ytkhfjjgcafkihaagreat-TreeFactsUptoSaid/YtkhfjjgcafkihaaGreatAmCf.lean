/-
  PROVED: lambrequinlaw17.TreeFacts (its second form): a tree of a fact alone proves just if a rule without atoms tells that fact of these facts: the law returns true, and its arguments read as they did.
  CONDITIONS: those of the given statement alone: what is read is of bulk at most 1048576.
-/
import Derived.Test.YtkhfjjgcafkihaaGreatAmGb
import Derived.Test.YtkhfjjgcafkihaaGreatRows
import Derived.ProofKit
import Derived.Deep.DeepHandedRow
import Derived.LaidSub
import Derived.MakeChecks
import Derived.Lay
set_option linter.unusedSimpArgs false
set_option linter.unusedVariables false
set_option linter.unusedSectionVars false
namespace Go.Am.treeFactsP
open Go.Am Go.Proofs Go.ChangeShapes Go.WideShapes Go.RowKit
open Go.Proofs.YtkhfjjgcafkihaaGreat

theorem argsOk : ∀ t ∈ Tryz.f3.params.toList, Tryz.prog.readableRec t = true ∧ t < Tryz.prog.types.size := by
  rw [Tryz.params3]
  intro t ht
  simp at ht
  rcases ht with rfl | rfl | rfl | rfl <;> exact ⟨by kernel_rfl, of_decide_eq_true (by kernel_rfl)⟩

set_option maxRecDepth 100000 in
theorem contract (H : Type) (enc : TypeId × Value → H) (W : World) (base : Nat) (args : Array Value) (ds gs : List (DataW H)) (before : List MemPlace)
    (hval : ∀ (j : Nat) t v, Tryz.f3.params[j]? = some t → args[j]? = some v → Value.okWide Tryz.prog W .any base t v)
    (hW : DataW.Whole enc Tryz.prog Tryz.f3.params.toList Rows.treeFactsSpec.vars false W args.toList ds gs before) (hb : Rows.uptoSmall H (ds ++ gs) = true) :
    Calls Tryz.prog 3 args W fun e W' => ∃ v, e = .returned v ∧ Rows.treeFactsSpec.post enc Tryz.prog Tryz.f3 false true false false W args v W' := by
  have hW0 := hW
  obtain ⟨p, q, hA, hV, rfl, _, _⟩ := hW
  obtain ⟨rfl, rfl⟩ := trodVars_none hV
  rw [Tryz.params3] at hA hval
  obtain ⟨v0, v1, v2, v3, d0, d1, d2, d3, p0, p1, p2, p3, rfl, rfl, rfl, h0, h1, h2, h3⟩ := RowKit.trodAll_four hA
  obtain ⟨a, s0, hv0⟩ := Rd.argA (fun N => rdPg) Tryz.underlying25 rfl (hval 0 25 v0 rfl rfl) h0
  obtain ⟨b, s1, hv1⟩ := Rd.arg (fun N => rdFcs) Tryz.underlying26 rfl (hval 1 26 v1 rfl rfl) h1
  obtain ⟨c, s2, hv2⟩ := Rd.argA (fun N => rdFc) Tryz.underlying29 rfl (hval 2 29 v2 rfl rfl) h2
  obtain ⟨d, s3, hv3⟩ := Rd.arg (fun N => rdU8) Tryz.underlying5 rfl (hval 3 5 v3 rfl rfl) h3
  have hB := of_decide_eq_true hb
  simp only [List.append_nil, Rows.uptoBulkAll] at hB
  simp only [bulk] at s0 s1 s2 s3
  have vrs : VRs mu0 st0 W [.agg a.cs, .sl (b.map Fc.cs), .agg c.cs, .int .u8 (d.1 : Int)] #[v0, v1, v2, v3] := ⟨rfl, fun i x v hx hv => by
    match i, hx, hv with
    | 0, hx, hv => simp at hx hv; subst hx; subst hv; simpa using hv0
    | 1, hx, hv => simp at hx hv; subst hx; subst hv; simpa using hv1
    | 2, hx, hv => simp at hx hv; subst hx; subst hv; simpa using hv2
    | 3, hx, hv => simp at hx hv; subst hx; subst hv; simpa using hv3⟩
  refine law_lift rfl argsOk rfl hW0 rfl rfl rfl vrs (ft_Facts a b c d.1 d.2 (pg_ok a (by omega)) (fs_ok b (by omega)) (pg_okS a (by omega)) (fs_okS b (by omega)) (fc_ok (by omega)).1 (fc_ok (by omega)).2 (pg_sz a (by omega)))

theorem own : ownKnob Tryz.prog.godebug = none := by kernel_rfl
/-- A world for the witness: the settled one, the tables laid. -/
noncomputable abbrev laidW (os : Os) : World := World.laidAll Tryz.prog os Rows.treeFactsUptoRow.laid
abbrev nilArgs : Array Value := #[.agg #[.slice none 0 0, .slice none 0 0], .slice none 0 0, .agg #[.string ⟨#[]⟩, .slice none 0 0], .int .u8 0]
theorem laid_met (os : Os) : laidMet Tryz.prog Rows.treeFactsUptoRow.laid ((laidW os).forCall (fun _ _ => 0) ⟨#[], nilArgs, []⟩).memory :=
  laidMet_laidAll nilArgs (by kernel_rfl) (by kernel_rfl)
theorem reads (os : Os) {H : Type} (enc : TypeId × Value → H) : ∃ places, DataW.whole enc Tryz.prog ((laidW os).forCall (fun _ _ => 0) ⟨#[], nilArgs, []⟩).memory Tryz.f3.params.toList Rows.treeFactsSpec.vars false nilArgs.toList 8 = some ([.agg [.nil, .nil], .nil, .agg [.lit (.string []), .nil], .lit (.int .u8 0)], [], places) :=
  ⟨[], by kernel_rfl⟩
set_option maxRecDepth 100000 in
theorem lifted (os : Os) (started : os.Started) (H : Type) (enc : TypeId × Value → H) (F : Stop.Interp) :
    ReturnsInHanded {} Tryz.checked os 3 .any ((Rows.OpenSpec.upto Rows.treeFactsSpec).preRow enc Tryz.prog Tryz.f3 Rows.treeFactsUptoRow.domain false Rows.treeFactsUptoRow.laid) (((Rows.OpenSpec.upto Rows.treeFactsSpec).at F).post enc Tryz.prog Tryz.f3 false true false false) := by
  obtain ⟨places, hx⟩ := reads os enc
  refine returnsInHanded_of_row (C := Tryz.checked) (s := Rows.OpenSpec.upto Rows.treeFactsSpec) own started (by kernel_rfl) Tryz.func3
    (witness_row_at (enc := enc) (C := Tryz.checked) false (laidW os) nilArgs (World.laidAll_os _ _ _) (by kernel_rfl) (by kernel_rfl) (by kernel_rfl)
      (OpenSpec.preRow_of_cond 8 hx (by kernel_rfl) (fun k hk => by cases hk; kernel_rfl) (by kernel_rfl) (laid_met os))) ?_
  intro W base args ds gs before hval hW _ hcond _ hL hsh _
  exact contract H enc W base args ds gs before hval hW (hcond _ rfl)
theorem saidUpto : Rows.TreeFactsUptoSaid :=
  OpenClaim.holds_of_cond 3 Tryz.f3 rfl rfl rfl rfl rfl rfl rfl ⟨rfl, rfl, rfl, rfl, rfl⟩ rfl rfl rfl rfl rfl (by kernel_rfl) Tryz.func3 (by kernel_rfl)
    (of_decide_eq_true (by kernel_rfl)) (by unfold Func.isWrapper; first | (rw [if_pos (by decide +kernel)]; kernel_rfl) | (rw [if_neg (by decide +kernel)]; exact ⟨rfl, rfl⟩))
    (fun os started H enc _ F => by rw [OpenClaim.pre_eq_preRow]; exact lifted os started H enc F)
end Go.Am.treeFactsP
namespace Go.Proofs.YtkhfjjgcafkihaaGreat
theorem treeFacts_holds : Rows.TreeFactsUptoSaid := Go.Am.treeFactsP.saidUpto
end Go.Proofs.YtkhfjjgcafkihaaGreat
