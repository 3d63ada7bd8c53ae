/-
  NARROWER THAN 'FOR EVERY INPUT', by the rows' own cells (each row's printed sentence says how): TreeChecks: loops.
  DERIVED. THE GIVEN ROWS OF THIS SEAT. 2 by the template 'for every input the law returns true; each argument reads behind the call as it read before'; 0 by the template 'total and deterministic' (their statements: YtkhfjjgcafkihaaGreatTotals.lean).
  GIVEN WITH THE SEED: the statements are not yours to turn. If you find one false, say at which input.
  Laid BY PROGRAM, IN A SANDBOX (cutbox-rows.mjs): the forced cells as the released guide's own fill.sh prints them over the translation 9798ad6fcf4dc2d2… (all of the seat's roots in one cut). By AI agents, Wed Nov 11 2026. No macro, syntax, notation, axiom, sorry.
-/
import Derived.Test.YtkhfjjgcafkihaaGreatChecked
import GoSem.Claim
import GoSem.ClaimJoined
import GoSem.ClaimMapViews
import Derived.JoinedTies
import Derived.KernelRfl
namespace Go.Proofs.YtkhfjjgcafkihaaGreat
/- THE CELL 'sum', in the pinned program and in every row, IS THE sha256 OF THE DUMP (.gsa) THAT YtkhfjjgcafkihaaGreatProg.lean LOADS. Nothing in Lean hashes anything: it is a label: what it is worth is what the hold of that sum in a sandbox is worth. -/
noncomputable def Tryz.pinned : Pinned := { name := "ytkhfjjgcafkihaagreat", sum := "9798ad6fcf4dc2d2baac0a831f043a207d5f2a2e94fff281533a17dda6b32a30", checked := Tryz.checked }
namespace Rows
def none {H : Type} : Left H := { results := [], args := [] }

/-- 'lambrequinlaw17.TreeFacts': WHATEVER THE INPUT: true; the input reads as it did. -/
def treeFactsSpec : ChangeSpec := { name := "treeFacts", fn := fun _ => fun
  | [d1, d2, d3, d4] => { results := [.lit (.bool true)], args := [d1, d2, d3, d4] }
  | _ => none }
def treeFactsRow : OpenClaim := { program := "ytkhfjjgcafkihaagreat", sum := "9798ad6fcf4dc2d2baac0a831f043a207d5f2a2e94fff281533a17dda6b32a30", func := "lambrequin/lambrequinlaw17.TreeFacts", spec := "treeFacts", inPlace := ["slices.overlaps[lambrequin/subst.Pair]"], unfollowed := true, recurses := true, apart := false }
def TreeFactsSaid : Prop := treeFactsRow.holds Tryz.pinned (OpenSpec.ofChange treeFactsSpec)

/-- ITS FALSE NEIGHBOUR: 'it returns false'. Refute it at one input. -/
def treeFactsWrong : ChangeSpec := { name := "treeFacts", fn := fun _ => fun
  | [d1, d2, d3, d4] => { results := [.lit (.bool false)], args := [d1, d2, d3, d4] }
  | _ => none }
def TreeFactsWrongFalsely : Prop := treeFactsRow.holds Tryz.pinned (OpenSpec.ofChange treeFactsWrong)

/-- 'lambrequinlaw17.TreeChecks': WHATEVER THE INPUT: true; the input reads as it did. -/
def treeChecksSpec : ChangeSpec := { name := "treeChecks", fn := fun _ => fun
  | [d1, d2, d3] => { results := [.lit (.bool true)], args := [d1, d2, d3] }
  | _ => none }
def treeChecksRow : OpenClaim := { program := "ytkhfjjgcafkihaagreat", sum := "9798ad6fcf4dc2d2baac0a831f043a207d5f2a2e94fff281533a17dda6b32a30", func := "lambrequin/lambrequinlaw17.TreeChecks", spec := "treeChecks", inPlace := ["slices.overlaps[lambrequin/subst.Pair]"], unfollowed := true, recurses := true, loops := true, apart := false }
def TreeChecksSaid : Prop := treeChecksRow.holds Tryz.pinned (OpenSpec.ofChange treeChecksSpec)

/-- ITS FALSE NEIGHBOUR: 'it returns false'. Refute it at one input. -/
def treeChecksWrong : ChangeSpec := { name := "treeChecks", fn := fun _ => fun
  | [d1, d2, d3] => { results := [.lit (.bool false)], args := [d1, d2, d3] }
  | _ => none }
def TreeChecksWrongFalsely : Prop := treeChecksRow.holds Tryz.pinned (OpenSpec.ofChange treeChecksWrong)

/- THE SECOND FORM. 'bulk': how many values and letters a reading holds, each counted each time it is reached (what is shared counts as often as it is met; a slice's spare places count too). A statement '..UptoSaid' is the law's where the arguments, and the package variables that the reading takes, are together of bulk at most 1048576: NARROWER than '..Said'. Prove '..Said' where nothing that the law and all that it calls make is longer than what came in: it says more and counts as full. Else prove '..UptoSaid'. A law counts once. -/
mutual
def uptoBulk {H : Type} : DataW H → Nat
  | .lit (.string bytes) => bytes.length + 1
  | .lit _ => 1
  | .nil => 1
  | .ptr d => uptoBulk d + 1
  | .slice elems spare => uptoBulkAll elems + uptoBulkAll spare + 1
  | .agg parts => uptoBulkAll parts + 1
  | .iface _ d => uptoBulk d + 1
  | .map entries => uptoBulkEntries entries + 1
  | .held _ => 1
def uptoBulkAll {H : Type} : List (DataW H) → Nat
  | [] => 0
  | d :: r => uptoBulk d + uptoBulkAll r
def uptoBulkEntries {H : Type} : List (Lit × DataW H) → Nat
  | [] => 0
  | x :: r => uptoBulkEntry x + uptoBulkEntries r
def uptoBulkEntry {H : Type} : Lit × DataW H → Nat
  | (.string bytes, d) => bytes.length + uptoBulk d + 1
  | (_, d) => uptoBulk d + 1
 end
def uptoSmall : (H : Type) → List (DataW H) → Bool := fun _ ds => decide (uptoBulkAll ds ≤ 1048576)
def OpenSpec.upto (s : _root_.Go.ChangeSpec) : _root_.Go.OpenSpec := { _root_.Go.OpenSpec.ofChange s with cond := some uptoSmall }

/-- 'lambrequinlaw17.TreeFacts', WHERE WHAT IT READS IS OF BULK AT MOST 1048576: true; the input reads as it did. -/
def treeFactsUptoRow : OpenClaim := { program := "ytkhfjjgcafkihaagreat", sum := "9798ad6fcf4dc2d2baac0a831f043a207d5f2a2e94fff281533a17dda6b32a30", func := "lambrequin/lambrequinlaw17.TreeFacts", spec := "treeFacts", inPlace := ["slices.overlaps[lambrequin/subst.Pair]"], unfollowed := true, recurses := true, apart := false, narrowed := true }
def TreeFactsUptoSaid : Prop := treeFactsUptoRow.holds Tryz.pinned (OpenSpec.upto treeFactsSpec)

/-- 'lambrequinlaw17.TreeChecks', WHERE WHAT IT READS IS OF BULK AT MOST 1048576: true; the input reads as it did. -/
def treeChecksUptoRow : OpenClaim := { program := "ytkhfjjgcafkihaagreat", sum := "9798ad6fcf4dc2d2baac0a831f043a207d5f2a2e94fff281533a17dda6b32a30", func := "lambrequin/lambrequinlaw17.TreeChecks", spec := "treeChecks", inPlace := ["slices.overlaps[lambrequin/subst.Pair]"], unfollowed := true, recurses := true, loops := true, apart := false, narrowed := true }
def TreeChecksUptoSaid : Prop := treeChecksUptoRow.holds Tryz.pinned (OpenSpec.upto treeChecksSpec)

end Rows
end Go.Proofs.YtkhfjjgcafkihaaGreat
