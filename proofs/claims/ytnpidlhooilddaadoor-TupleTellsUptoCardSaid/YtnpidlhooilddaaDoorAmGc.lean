/- Part of the proof: abstract values over the given model of Go (GlC). Conditions: none of its own; see the statement in the seat's Rows text. -/
import Derived.Test.YtnpidlhooilddaaDoorAmGl
import Derived.Test.YtnpidlhooilddaaDoorAmTE
import Derived.Test.YtnpidlhooilddaaDoorAmPb
set_option linter.unusedSimpArgs false
set_option linter.unusedVariables false
set_option linter.unusedSectionVars false
namespace Go.Am
open Go.Proofs Go.ChangeShapes Go.WideShapes
open Go.Proofs.YtnpidlhooilddaaDoor
theorem cells3 : Tryd.prog.cellsOf 3 = 1 := by kernel_rfl
theorem cells27 : Tryd.prog.cellsOf 27 = 1 := by kernel_rfl
theorem rdI : Rd Tryd.prog 27 (fun l : List { n : Int // (Lit.int .i64 n).wf = true } => [.sl (ints (l.map (·.1)))]) (fun l => (l.map fun _ => 1).sum + 1) :=
  Rd.map (Rd.slice (Rd.int (k := .i64) Tryd.underlying3 cells3) Tryd.underlying27 cells27 (by rw [cells3]; omega)) (fun l => l) (fun l => by simp [ints]) fun l => Nat.le_refl _
theorem len_ones {α : Type} (l : List α) : l.length ≤ (l.map fun _ => 1).sum := by
  induction l with
  | nil => simp
  | cons x l ih => simp only [List.map_cons, List.sum_cons, List.length_cons]; omega
theorem vsize_of (l : List VV) : VsizeL (l.map (·.1)) = (l.map fun v => v.1.s.length + 1).sum := by
  simp only [VsizeL, List.map_map]; rfl
theorem vsize_sum (l : List VV) : (l.map fun v => v.1.s.length + 1).sum ≤ (l.map VV.sz).sum := by
  induction l with
  | nil => simp
  | cons v l ih =>
    have h1 : v.1.s.length + 4 = v.sz := rfl
    simp only [List.map_cons, List.sum_cons]; omega
end Go.Am
