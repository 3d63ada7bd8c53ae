/-
  PROVED: lambrequinlaw03.TupleTells (its second form's card): any two rows' order, any one's key, made, and projected on any places, and any text's row, are the document's, or refused: the law returns true, and its arguments read as they did.
  CONDITIONS: those of the given statement alone: what is read is of bulk at most 1048576, and the listed package-level variables stand as the program's text lays them (the given tie).
-/
import Derived.Test.YtnpidlhooilddaaDoorAmGc
import Derived.Test.YtnpidlhooilddaaDoorAmPl
import Derived.Test.YtnpidlhooilddaaDoorAmTI
import Derived.Test.YtnpidlhooilddaaDoorCards
import Derived.Test.YtnpidlhooilddaaDoorTie
import Derived.ProofKit
import Derived.Deep.DeepHandedRow
import Derived.LaidSub
import Derived.MakeChecks
import Derived.Lay
set_option linter.unusedSimpArgs false
set_option linter.unusedVariables false
set_option linter.unusedSectionVars false
namespace Go.Am.tupleTellsP
open Go.Am Go.Proofs Go.ChangeShapes Go.WideShapes Go.RowKit
open Go.Proofs.YtnpidlhooilddaaDoor

theorem tens_laid {W : World} (h : laidMetH Tryd.prog Rows.tupleTellsUptoRow.laid W) : Tens W := by
  have h1 := laidMetH.filter (fun x => x.1 == "internal/strconv.uint64pow10") h
  have h2 : laidMet Tryd.prog [("internal/strconv.uint64pow10", Lib.tabData .u64 Lib.pow10Tab)] W := by
    rw [← MakeChecks.laidMetH_plain _ _ _ (by kernel_rfl)]
    exact h1
  exact Lib.tabIs_of_head (t := 96) (e := 84) (n := 20) gTens (by kernel_rfl) Tryd.underlying96 Tryd.underlying84 (by kernel_rfl) (by kernel_rfl) h2
theorem pos_of_tens {W : World} (h : Tens W) : 0 < W.heap.size := by
  unfold Tens Lib.TabIs World.var? at h
  rw [gTens] at h
  simp only [Option.bind_some] at h
  cases hh : W.heap[0]? with
  | none => rw [hh] at h; cases h
  | some o => exact (Array.getElem?_eq_some_iff.1 hh).1

theorem iface_of_trod {P : Program} {w : World} {t : TypeId} {ms : Array (String × TypeId)} {fuel : Nat} {cs : List Value} {n : String} {d : DataW Unit} {p : List MemPlace} {sp : Nat → Bool}
    (ht : P.underlying t = some (.interface ms)) (h : DataW.trod (fun _ => ()) P w 0 sp false fuel t cs = some (.iface n d, p)) : ∃ u v, cs = [.iface u v] := by
  cases fuel with
  | zero => simp [DataW.trod] at h
  | succ k =>
    unfold DataW.trod at h
    rw [ht] at h
    split at h <;> simp_all
theorem iface_laid {W : World} {name : String} {n : String} {d : DataW Unit} {g : Nat} (hg : Tryd.prog.globalNamed name = some g) (hty : (Tryd.prog.globals[g]?).map (·.type) = some 57)
    (h : laidMet Tryd.prog [(name, .iface n d)] W) : ∃ te pe, W.cell? ⟨g, 0, none⟩ = some (.iface te pe) := by
  obtain ⟨ps, ⟨g', t', cs, fuel, p, q, hg', ht', hvar, hd, _, _⟩, _⟩ := h
  obtain rfl := Option.some.inj (hg.symm.trans hg')
  obtain rfl := Option.some.inj (hty.symm.trans ht')
  obtain ⟨u, v, hc⟩ := iface_of_trod Tryd.underlying57 hd
  refine ⟨u, v, ?_⟩
  have := World.var?_cell hg hvar 0
  rw [this, ← Array.getElem?_toList, hc]
  rfl
theorem errs_laid {W : World} (h : laidMetH Tryd.prog Rows.tupleTellsUptoRow.laid W) (hsh : W.ShapedOpen Tryd.prog) : Errs W where
  max := Tryd.laysCutM.s1_3 W hsh
  syn := by
    have h1 := laidMetH.filter (fun x => x.1 == "strconv.ErrSyntax") h
    have h2 : laidMet Tryd.prog [("strconv.ErrSyntax", Rows.laid_strconv_ErrSyntax)] W := by
      rw [← MakeChecks.laidMetH_plain _ _ _ (by kernel_rfl)]
      exact h1
    exact iface_laid (by kernel_rfl) (by kernel_rfl) h2
  rng := by
    have h1 := laidMetH.filter (fun x => x.1 == "strconv.ErrRange") h
    have h2 : laidMet Tryd.prog [("strconv.ErrRange", Rows.laid_strconv_ErrRange)] W := by
      rw [← MakeChecks.laidMetH_plain _ _ _ (by kernel_rfl)]
      exact h1
    exact iface_laid (by kernel_rfl) (by kernel_rfl) h2
theorem big_of_errs {W : World} (h : Errs W) : 3 < W.heap.size := by
  obtain ⟨te, pe, h3⟩ := h.rng
  exact World.block_lt_of_cell? W _ h3

theorem argsOk : ∀ t ∈ Tryd.f9.params.toList, Tryd.prog.readableRec t = true ∧ t < Tryd.prog.types.size := by
  rw [Tryd.params9]
  intro t ht
  simp at ht
  rcases ht with rfl | rfl | rfl <;> exact ⟨by kernel_rfl, of_decide_eq_true (by kernel_rfl)⟩

set_option maxRecDepth 100000 in
theorem contract (H : Type) (enc : TypeId × Value → H) (W : World) (base : Nat) (args : Array Value) (ds gs : List (DataW H)) (before : List MemPlace)
    (hval : ∀ (j : Nat) t v, Tryd.f9.params[j]? = some t → args[j]? = some v → Value.okWide Tryd.prog W .any base t v)
    (hW : DataW.Whole enc Tryd.prog Tryd.f9.params.toList Rows.tupleTellsSpec.vars false W args.toList ds gs before) (hb : Rows.uptoSmall H (ds ++ gs) = true) (hL : Tens W) (hE : Errs W) :
    Calls Tryd.prog 9 args W fun e W' => ∃ v, e = .returned v ∧ Rows.tupleTellsSpec.post enc Tryd.prog Tryd.f9 false true false false W args v W' := by
  have hW0 := hW
  obtain ⟨p, q, hA, hV, rfl, _, _⟩ := hW
  obtain ⟨rfl, rfl⟩ := trodVars_none hV
  rw [Tryd.params9] at hA hval
  obtain ⟨v0, v1, v2, v3, d0, d1, d2, d3, p0, p1, p2, p3, rfl, rfl, rfl, h0, h1, h2, h3⟩ := RowKit.trodAll_four hA
  obtain ⟨a, s0, hv0⟩ := Rd.arg rdT Tryd.underlying22 rfl (hval 0 22 v0 rfl rfl) h0
  obtain ⟨b, s1, hv1⟩ := Rd.arg rdT Tryd.underlying22 rfl (hval 1 22 v1 rfl rfl) h1
  obtain ⟨c, s2, hv2⟩ := Rd.arg (Rd.str Tryd.underlying9 cells9) Tryd.underlying9 rfl (hval 2 9 v2 rfl rfl) h2
  obtain ⟨d, s3, hv3⟩ := Rd.arg rdI Tryd.underlying27 rfl (hval 3 27 v3 rfl rfl) h3
  have hB := of_decide_eq_true hb
  simp only [List.append_nil, Rows.uptoBulkAll] at hB
  simp only [bulk] at s0 s1 s2 s3
  have vrs : VRs mu0 st0 W [.sl ((a.map (·.1)).map V.cs), .sl ((b.map (·.1)).map V.cs), .str c, .sl (ints (d.map (·.1)))] #[v0, v1, v2, v3] := ⟨rfl, fun i x v hx hv => by
    match i, hx, hv with
    | 0, hx, hv => simp at hx hv; subst hx; subst hv; simpa using hv0
    | 1, hx, hv => simp at hx hv; subst hx; subst hv; simpa using hv1
    | 2, hx, hv => simp at hx hv; subst hx; subst hv; simpa using hv2
    | 3, hx, hv => simp at hx hv; subst hx; subst hv; simpa using hv3⟩
  have oa := ok_of_sum a (by omega)
  have hla := len_sum a
  have hld : d.length ≤ (d.map fun _ => 1).sum := len_ones d
  refine law_lift rfl argsOk rfl hW0 rfl rfl rfl vrs
    (ft9 (big_of_errs hE) hL hE _ _ _ _ oa (okS_of (by rw [vsize_of]; have := vsize_sum a; omega)) (okS_of (by rw [vsize_of]; have := vsize_sum b; omega)) (by rw [List.length_map]; omega) (by omega) (by rw [List.length_map]; omega))

theorem own : ownKnob Tryd.prog.godebug = none := by kernel_rfl
/-- A world for the witness: the settled one, the tables laid. -/
noncomputable abbrev laidW (os : Os) : World := World.laidAll Tryd.prog os Rows.tupleTellsUptoRow.laid
abbrev nilArgs : Array Value := #[.slice none 0 0, .slice none 0 0, .string ⟨#[]⟩, .slice none 0 0]
theorem laid_met (os : Os) : laidMet Tryd.prog Rows.tupleTellsUptoRow.laid ((laidW os).forCall (fun _ _ => 0) ⟨#[], nilArgs, []⟩).memory :=
  laidMet_laidAll nilArgs (by kernel_rfl) (by kernel_rfl)
theorem reads (os : Os) {H : Type} (enc : TypeId × Value → H) : ∃ places, DataW.whole enc Tryd.prog ((laidW os).forCall (fun _ _ => 0) ⟨#[], nilArgs, []⟩).memory Tryd.f9.params.toList Rows.tupleTellsSpec.vars false nilArgs.toList 8 = some ([.nil, .nil, .lit (.string []), .nil], [], places) :=
  ⟨[], by kernel_rfl⟩
set_option maxRecDepth 100000 in
theorem lifted (os : Os) (started : os.Started) (H : Type) (enc : TypeId × Value → H) (F : Stop.Interp) :
    ReturnsInHanded {} Tryd.checked os 9 .any ((Rows.OpenSpec.upto Rows.tupleTellsSpec).preRow enc Tryd.prog Tryd.f9 Rows.tupleTellsUptoRow.domain false Rows.tupleTellsUptoRow.laid) (((Rows.OpenSpec.upto Rows.tupleTellsSpec).at F).post enc Tryd.prog Tryd.f9 false true false false) := by
  obtain ⟨places, hx⟩ := reads os enc
  refine returnsInHanded_of_row (C := Tryd.checked) (s := Rows.OpenSpec.upto Rows.tupleTellsSpec) own started (by kernel_rfl) Tryd.func9
    (witness_row_at (enc := enc) (C := Tryd.checked) false (laidW os) nilArgs (World.laidAll_os _ _ _) (by kernel_rfl) (by kernel_rfl) (by kernel_rfl)
      (OpenSpec.preRow_of_cond 8 hx (by kernel_rfl) (fun k hk => by cases hk; kernel_rfl) (by kernel_rfl) (laid_met os))) ?_
  intro W base args ds gs before hval hW _ hcond _ hL hsh _
  exact contract H enc W base args ds gs before hval hW (hcond _ rfl) (tens_laid hL) (errs_laid hL hsh)
theorem saidUpto : Rows.TupleTellsUptoSaid :=
  OpenClaim.holds_of_cond 9 Tryd.f9 rfl rfl rfl rfl rfl rfl rfl ⟨rfl, rfl, rfl, rfl, rfl⟩ rfl rfl rfl rfl rfl (by kernel_rfl) Tryd.func9 (by kernel_rfl)
    (of_decide_eq_true (by kernel_rfl)) (by unfold Func.isWrapper; first | (rw [if_pos (by decide +kernel)]; kernel_rfl) | (rw [if_neg (by decide +kernel)]; exact ⟨rfl, rfl⟩))
    (fun os started H enc _ F => by rw [OpenClaim.pre_eq_preRow]; exact lifted os started H enc F)
theorem plain (f : FuncId) (fn : Func) (hf : Tryd.pinned.checked.prog.funcNamed "lambrequin/lambrequinlaw03.TupleTells" = some f) (hfn : Tryd.pinned.checked.prog.funcs[f]? = some fn) :
    true = Tryd.pinned.checked.prog.looks [] ∧ ∀ (j : Nat) t, fn.params[j]? = some t → Tryd.pinned.checked.prog.wantsStandIn t = false := by
  obtain rfl : f = 9 := Option.some.inj ((show Tryd.prog.funcNamed "lambrequin/lambrequinlaw03.TupleTells" = some 9 by kernel_rfl).symm.trans hf) |>.symm
  obtain rfl : fn = Tryd.f9 := (Option.some.inj (Tryd.func9.symm.trans hfn)).symm
  refine ⟨by kernel_rfl, fun j t ht => ?_⟩
  rw [Tryd.params9] at ht
  have ht' := Array.mem_of_getElem? ht
  simp at ht'
  rcases ht' with rfl | rfl | rfl
  · exact (show Tryd.prog.wantsStandIn 22 = false by kernel_rfl)
  · exact (show Tryd.prog.wantsStandIn 9 = false by kernel_rfl)
  · exact (show Tryd.prog.wantsStandIn 27 = false by kernel_rfl)
theorem cardUpto : Rows.TupleTellsUptoCardSaid :=
  Claim7.holds_tied_plain_at .later [] _ _ _ _ saidUpto (fun _ h => by cases h) (by kernel_rfl) (fun _ h => by cases h) tupleTellsUpto_row_tie rfl ⟨rfl, rfl⟩ (by kernel_rfl) rfl plain (by kernel_rfl)
end Go.Am.tupleTellsP
namespace Go.Proofs.YtnpidlhooilddaaDoor
theorem tupleTells_holds : Rows.TupleTellsUptoCardSaid := Go.Am.tupleTellsP.cardUpto
end Go.Proofs.YtnpidlhooilddaaDoor
