/- Part of the proof: abstract values over the given model of Go (GlD). Conditions: none of its own; see the statement in the seat's Rows text. -/
import Derived.Test.YtnpidlhooilddaaDoorAmGl
import Derived.Test.YtnpidlhooilddaaDoorAmTq
set_option linter.unusedSimpArgs false
set_option linter.unusedVariables false
set_option linter.unusedSectionVars false
namespace Go.Am
open Go.Proofs Go.ChangeShapes Go.WideShapes
open Go.Proofs.YtnpidlhooilddaaDoor
theorem cells36 : Tryd.prog.cellsOf 36 = 1 := by kernel_rfl
theorem cells5 : Tryd.prog.cellsOf 5 = 1 := by kernel_rfl
abbrev rowsOf (l : List (List VV)) : Rows0 := l.map fun t => t.map (·.1)
def szT (t : List VV) : Nat := (t.map VV.sz).sum + 1
theorem rdTT : Rd Tryd.prog 36 (fun l : List (List VV) => [.sl (encD (rowsOf l))]) (fun l => (l.map szT).sum + 1) :=
  Rd.map (Rd.slice rdT Tryd.underlying36 cells36 (by rw [cells22]; omega)) (fun l => l) (fun l => by simp [encD, Rw]) fun l => Nat.le_refl _
theorem mem_szT (l : List (List VV)) (t : List VV) (h : t ∈ l) : szT t ≤ (l.map szT).sum := by
  induction l with
  | nil => cases h
  | cons v l ih =>
    rw [List.map_cons, List.sum_cons]
    rcases List.mem_cons.1 h with e | h
    · rw [e]; exact Nat.le_add_right _ _
    · exact Nat.le_trans (ih h) (Nat.le_add_left _ _)
theorem len_szT (l : List (List VV)) : l.length ≤ (l.map szT).sum := by
  induction l with
  | nil => simp
  | cons v l ih => simp only [List.map_cons, List.sum_cons, List.length_cons, szT] at *; omega
theorem rows_ok (l : List (List VV)) (h : (l.map szT).sum ≤ 1048576) : ∀ t ∈ rowsOf l, okR t = true := by
  intro t ht
  obtain ⟨u, hu, rfl⟩ := List.mem_map.1 ht
  have h1 : (u.map VV.sz).sum + 1 ≤ (l.map szT).sum := mem_szT l u hu
  have h2 := len_sum u
  simp only [okR, Bool.and_eq_true, decide_eq_true_eq, List.all_eq_true, List.length_map]
  refine ⟨by unfold LIM; omega, fun v hv => ?_⟩
  obtain ⟨x, hx, rfl⟩ := List.mem_map.1 hv
  have h3 := le_sum_of_mem u x hx
  have h4 : x.1.s.length + 4 = x.sz := rfl
  unfold LIM; omega
end Go.Am
