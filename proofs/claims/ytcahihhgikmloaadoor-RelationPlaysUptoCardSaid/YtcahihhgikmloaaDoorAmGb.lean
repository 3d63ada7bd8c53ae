/- Part of the proof: abstract values over the given model of Go (G3). Conditions: none of its own; see the statement in the seat's Rows text. -/
import Derived.Test.YtcahihhgikmloaaDoorAmGa
import Derived.Test.YtcahihhgikmloaaDoorAmRb
set_option linter.unusedSimpArgs false
set_option linter.unusedVariables false
set_option linter.unusedSectionVars false
namespace Go.Am
open Go.Proofs Go.ChangeShapes Go.WideShapes
open Go.Proofs.YtcahihhgikmloaaDoor
theorem cells5 : Tryd.prog.cellsOf 5 = 1 := by kernel_rfl
theorem cells44 : Tryd.prog.cellsOf 44 = 1 := by kernel_rfl
theorem cells52 : Tryd.prog.cellsOf 52 = 4 := by kernel_rfl
theorem cells47 : Tryd.prog.cellsOf 47 = 1 := by kernel_rfl
abbrev II := { n : Int // (Lit.int .i64 n).wf = true }
theorem rdI : Rd Tryd.prog 44 (fun l : List II => [.sl (ints (l.map (·.1)))]) (fun l => (l.map fun _ => 1).sum + 1) :=
  Rd.map (Rd.slice (Rd.int (k := .i64) Tryd.underlying3 cells3) Tryd.underlying44 cells44 (by rw [cells3]; omega)) (fun l => l) (fun l => by simp [ints]) fun l => Nat.le_refl _
abbrev DX := II × List VV × List II × Bool × Unit
def DX.de (d : DX) : De := ⟨d.1.1, d.2.1.map (·.1), d.2.2.1.map (·.1), d.2.2.2.1⟩
def DX.sz (d : DX) : Nat := (d.2.1.map VV.sz).sum + 1
theorem rdDe : Rd Tryd.prog 52 (fun d : DX => dc d.de) DX.sz := by
  have h : RdF Tryd.prog _ 0 _ _ := RdF.cons (f := ⟨"Kind", 3, 0, false, "", "", 0⟩) (Rd.int (k := .i64) Tryd.underlying3 cells3) rfl
    (RdF.cons (f := ⟨"T", 33, 1, false, "", "", 8⟩) rdT (by rw [cells3])
      (RdF.cons (f := ⟨"Cols", 44, 2, false, "", "", 32⟩) rdI (by rw [cells3, cells33])
        (RdF.cons (f := ⟨"Only", 4, 3, false, "", "", 56⟩) (Rd.bool Tryd.underlying4 cells4) (by rw [cells3, cells33, cells44]) RdF.nil)))
  exact Rd.map (cs' := fun d : DX => dc d.de) (m' := DX.sz) (Rd.struct Tryd.underlying52 h fun a => by rw [cells52]; rfl) (fun a => a) (fun a => rfl) fun a => by simp only [DX.sz]; omega
theorem rdL : Rd Tryd.prog 47 (fun l : List DX => [.sl (deeds (l.map DX.de))]) (fun l => (l.map DX.sz).sum + 1) :=
  Rd.map (Rd.slice rdDe Tryd.underlying47 cells47 (by rw [cells52]; omega)) (fun l => l) (fun l => by
    simp only [deeds, List.map_map]; rfl) fun l => Nat.le_refl _
theorem dx_len (l : List DX) : l.length ≤ (l.map DX.sz).sum := by
  induction l with
  | nil => simp
  | cons v l ih => simp only [List.map_cons, List.sum_cons, List.length_cons, DX.sz]; omega
theorem dx_mem (l : List DX) (x : DX) (h : x ∈ l) : x.sz ≤ (l.map DX.sz).sum := by
  induction l with
  | nil => cases h
  | cons v l ih =>
    rw [List.map_cons, List.sum_cons]
    rcases List.mem_cons.1 h with e | h
    · rw [e]; exact Nat.le_add_right _ _
    · exact Nat.le_trans (ih h) (Nat.le_add_left _ _)
theorem vv_mem (l : List VV) (x : VV) (h : x ∈ l) : x.sz ≤ (l.map VV.sz).sum := by
  induction l with
  | nil => cases h
  | cons v l ih =>
    rw [List.map_cons, List.sum_cons]
    rcases List.mem_cons.1 h with e | h
    · rw [e]; exact Nat.le_add_right _ _
    · exact Nat.le_trans (ih h) (Nat.le_add_left _ _)
theorem dx_ok (l : List DX) (h : (l.map DX.sz).sum ≤ 1048576) : (l.map DX.de).length < 1073741824 ∧ ∀ d ∈ l.map DX.de, ∀ v ∈ d.t, v.s.length < LIM := by
  refine ⟨?_, fun d hd v hv => ?_⟩
  · rw [List.length_map]; have := dx_len l; omega
  · obtain ⟨q, hq, rfl⟩ := List.mem_map.1 hd
    obtain ⟨u, hu, rfl⟩ := List.mem_map.1 hv
    have h1 := dx_mem l q hq
    have h2 := vv_mem q.2.1 u hu
    simp only [DX.sz, VV.sz, LIM] at h1 h2 ⊢
    omega
end Go.Am
