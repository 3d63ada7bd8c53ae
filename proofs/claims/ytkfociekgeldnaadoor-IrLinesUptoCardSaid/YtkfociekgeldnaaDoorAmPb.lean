/- Part of the proof: abstract values over the given model of Go (P3). Conditions: none of its own; see the statement in the seat's Rows text. -/
import Derived.Test.YtkfociekgeldnaaDoorAmPa
set_option linter.unusedSimpArgs false
set_option linter.unusedVariables false
set_option linter.unusedSectionVars false
namespace Go.Am
open Go.Proofs
theorem textL_cons (m : Sm) (l : List Sm) : textL (m :: l) = lineS m ++ 10 :: textL l := by simp [textL]
theorem split_text : ∀ (l : List Sm) (r : Str), (∀ m ∈ l, mayB m = true) → splitC 10 1 (textL l ++ r) = (l.map fun m => lineS m ++ [10]) ++ splitC 10 1 r
  | [], r, _ => by simp [textL]
  | m :: l, r, h => by
    rw [textL_cons, List.append_assoc, List.cons_append, splitC_app 10 1 _ _ (line_no10 (h m (by simp))), split_text l r fun m hm => h m (by simp [hm])]
    simp
theorem good_line {m : Sm} (h : mayB m = true) (hi : okI m = true) : goodL (lineS m ++ [10]) = true := by
  rw [goodL, st_line h hi, h]; simp
theorem lines_of_split {x : Str} {Y : List Str} (h : splitC 10 1 x = Y ++ [[]]) : linesOf x = Y := by unfold linesOf; rw [h]; simp
theorem text_back (l : List Sm) (h2 : l.length ≤ 200) (h : ∀ m ∈ l, mayB m = true) (hi : ∀ m ∈ l, okI m = true) : parseS (textL l) = (l, 0, 0) := by
  have hs := split_text l [] h
  rw [List.append_nil] at hs
  have hL : linesOf (textL l) = l.map fun m => lineS m ++ [10] := by unfold linesOf; rw [hs]; simp [splitC]
  have hall : (l.map fun m => lineS m ++ [10]).all goodL = true := by
    rw [List.all_map, List.all_eq_true]
    exact fun m hm => good_line (h m hm) (hi m hm)
  have hmap : (l.map fun m => lineS m ++ [10]).map stOf = l := by
    rw [List.map_map]
    conv => rhs; rw [← List.map_id l]
    exact List.map_congr_left fun m hm => st_line (h m hm) (hi m hm)
  unfold parseS
  rw [hL, List.length_map, if_neg (by omega), if_pos hall, hmap]
theorem split_flat (c : UInt8) : ∀ x : Str, (splitC c 1 x).flatten = x
  | [] => rfl
  | b :: x => by
    have ih := split_flat c x
    unfold splitC
    split
    · rename_i h
      simp [ih]
    · obtain ⟨p, q, e⟩ := splitC_ne c 1 x
      rw [e] at ih ⊢
      simpa using ih
theorem split_count (c : UInt8) : ∀ x : Str, (splitC c 1 x).length = x.count c + 1
  | [] => rfl
  | b :: x => by
    have ih := split_count c x
    unfold splitC
    split
    · rename_i h
      have : b = c := by simpa using h
      subst this
      simp [ih]
    · rename_i h
      have hb : ¬ b = c := by simpa using h
      obtain ⟨p, q, e⟩ := splitC_ne c 1 x
      rw [e] at ih ⊢
      rw [List.count_cons_of_ne hb, ← ih]; rfl
theorem flat_good : ∀ Y : List Str, Y.all goodL = true → textL (Y.map stOf) = Y.flatten
  | [], _ => rfl
  | y :: Y, h => by
    simp only [List.all_cons, Bool.and_eq_true] at h
    have hy := h.1
    simp only [goodL, Bool.and_eq_true, beq_iff_eq] at hy
    rw [List.map_cons, textL_cons, flat_good Y h.2, List.flatten_cons]
    conv => rhs; rw [← hy.2]
    simp
/-- What was read: the text again; as many lines; each may be. -/
theorem parse_ones (x : Str) (h : (parseS x).2.2 = 0) : textS (parseS x).1 = (x, 0) ∧ x.count 10 = (parseS x).1.length ∧ (∀ m ∈ (parseS x).1, mayB m = true) ∧ (parseS x).1.length ≤ 200 := by
  have key : (linesOf x).all goodL = true ∧ ¬ 200 < (linesOf x).length ∧ parseS x = ((linesOf x).map stOf, 0, 0) := by
    unfold parseS at h ⊢
    split at h
    · simp at h
    · rename_i h2
      split at h
      · rename_i h3; exact ⟨h3, h2, by rw [if_neg h2, if_pos h3]⟩
      · simp at h
  obtain ⟨h1, h2, h3⟩ := key
  rw [h3]
  simp only
  obtain ⟨p, q, hne⟩ := splitC_ne 10 1 x
  have hX0 : splitC 10 1 x ≠ [] := by rw [hne]; simp
  have hend : (splitC 10 1 x).getLast? = some [] := by
    refine Classical.byContradiction fun hc => ?_
    have hL : linesOf x = splitC 10 1 x := by unfold linesOf; rw [if_neg hc]
    obtain ⟨p0, q0, hne0⟩ := splitC_ne 10 0 x
    have hX00 : splitC 10 0 x ≠ [] := by rw [hne0]; simp
    have hE := (List.dropLast_concat_getLast hX00).symm
    have hE1 := split_ends 10 x _ _ hE
    rw [hL, hE1, List.all_append] at h1
    simp only [List.all_cons, List.all_nil, Bool.and_true, Bool.and_eq_true] at h1
    rw [part_bad _ (split_no 10 x _ (List.getLast_mem hX00))] at h1
    exact absurd h1.2 (by simp)
  have hL : linesOf x = (splitC 10 1 x).dropLast := by unfold linesOf; rw [if_pos hend]
  have hsplit : splitC 10 1 x = linesOf x ++ [[]] := by
    rw [hL]
    have := List.dropLast_concat_getLast hX0
    have e : (splitC 10 1 x).getLast hX0 = [] := by
      rw [List.getLast?_eq_some_getLast hX0] at hend
      exact Option.some.inj hend
    rw [e] at this
    exact this.symm
  have hflat : (linesOf x).flatten = x := by
    have := split_flat 10 x
    rw [hsplit] at this
    simpa using this
  have hcnt : x.count 10 = (linesOf x).length := by
    have := split_count 10 x
    rw [hsplit] at this
    simp at this
    omega
  have hmay : ∀ m ∈ (linesOf x).map stOf, mayB m = true := fun m hm => by
    obtain ⟨y, hy, rfl⟩ := List.mem_map.1 hm
    have := List.all_eq_true.1 h1 y hy
    simp only [goodL, Bool.and_eq_true] at this
    exact this.1
  refine ⟨?_, by rw [hcnt, List.length_map], hmay, by rw [List.length_map]; omega⟩
  unfold textS
  rw [List.length_map, if_neg h2, if_pos (List.all_eq_true.2 hmay), flat_good _ h1, hflat]
theorem parse_not (x : Str) (h : (parseS x).2.2 ≠ 0) : (parseS x).1 = [] ∧ 0 ≤ (parseS x).2.1 ∧ (parseS x).2.1 ≤ 200 := by
  unfold parseS at h ⊢
  split
  · simp
  · rename_i h2
    rw [if_neg h2] at h
    split
    · rename_i h3; rw [if_pos h3] at h; exact absurd rfl h
    · refine ⟨rfl, by simp, ?_⟩
      have := List.findIdx_le_length (xs := linesOf x) (p := fun y => !goodL y)
      simp only; omega
/-- One bad line among good ones. -/
theorem parse_bad1 (b : Str) (hb : (10 : UInt8) ∉ b) : (parseS (b ++ [10])).2.2 = if goodL (b ++ [10]) = true then 0 else 2 := by
  have hs : splitC 10 1 (b ++ [10]) = [b ++ [10], []] := by rw [splitC_app 10 1 b [] hb]; rfl
  have hL : linesOf (b ++ [10]) = [b ++ [10]] := by unfold linesOf; rw [hs]; rfl
  unfold parseS
  rw [hL, if_neg (by simp)]
  simp only [List.all_cons, List.all_nil, Bool.and_true]
  split <;> rfl
theorem parse_lines (l1 l2 : List Sm) (b : Str) (hl : l1.length + l2.length ≤ 190) (hb : (10 : UInt8) ∉ b) (hbad : goodL (b ++ [10]) = false) (h1 : ∀ m ∈ l1, mayB m = true) (h2 : ∀ m ∈ l2, mayB m = true)
    (i1 : ∀ m ∈ l1, okI m = true) : parseS (textL l1 ++ b ++ [10] ++ textL l2) = ([], (l1.length : Int), 2) := by
  have hs : splitC 10 1 (textL l1 ++ b ++ [10] ++ textL l2) = (l1.map fun m => lineS m ++ [10]) ++ (b ++ [10]) :: ((l2.map fun m => lineS m ++ [10]) ++ [[]]) := by
    have e : textL l1 ++ b ++ [10] ++ textL l2 = textL l1 ++ (b ++ 10 :: (textL l2 ++ [])) := by simp
    rw [e, split_text l1 _ h1, splitC_app 10 1 b _ hb, split_text l2 [] h2]
    rfl
  have hL : linesOf (textL l1 ++ b ++ [10] ++ textL l2) = (l1.map fun m => lineS m ++ [10]) ++ (b ++ [10]) :: (l2.map fun m => lineS m ++ [10]) :=
    lines_of_split (by rw [hs]; simp)
  have hna : ((l1.map fun m => lineS m ++ [10]) ++ (b ++ [10]) :: (l2.map fun m => lineS m ++ [10])).all goodL = false := by
    rw [List.all_eq_false]
    exact ⟨b ++ [10], by simp, by rw [hbad]; simp⟩
  have hidx : ((l1.map fun m => lineS m ++ [10]) ++ (b ++ [10]) :: (l2.map fun m => lineS m ++ [10])).findIdx (fun y => !goodL y) = l1.length := by
    rw [findIdx_app2 _ _ fun y hy => ?_]
    · simp [List.findIdx_cons, hbad]
    · obtain ⟨m, hm, rfl⟩ := List.mem_map.1 hy
      rw [good_line (h1 m hm) (i1 m hm)]; rfl
  unfold parseS
  rw [hL, hna, hidx, if_neg (by simp; omega)]
  simp
/-! ### where a flow leads -/
def fineB (n : Nat) : Nat → List Sm → Bool
  | _, [] => true
  | i, m :: l => ((m.k != 7 && m.k != 8 || decide (m.a < n)) && (m.k != 7 || decide (m.b < n)) && (decide ((i : Int) + 1 < n) || m.k == 7 || m.k == 8 || m.k == 9)) && fineB n (i + 1) l
theorem chk_fine : ∀ (l : List Sm) (n i : Nat), i + l.length = n → (∀ m ∈ l, mayB m = true) → ((chk n i l).2 = 0 ↔ fineB n i l = true) ∧ ((chk n i l).2 = 0 ∨ (chk n i l).2 = 12)
  | [], n, i, _, _ => ⟨by simp [chk, fineB], .inl rfl⟩
  | m :: l, n, i, h, hm => by
    have hmm := hm m (by simp)
    simp only [List.length_cons] at h
    have ih := chk_fine l n (i + 1) (by omega) fun m hm' => hm m (by simp [hm'])
    simp only [chk, hmm, if_true, fineB, Bool.and_eq_true]
    have hk : outS m i n = false ↔ ((m.k != 7 && m.k != 8 || decide (m.a < n)) = true ∧ (m.k != 7 || decide (m.b < n)) = true) ∧ (decide ((i : Int) + 1 < n) || m.k == 7 || m.k == 8 || m.k == 9) = true := by
      unfold outS
      by_cases h7 : m.k = 7
      · simp [h7]; split <;> omega
      · by_cases h8 : m.k = 8
        · have hb : m.b = 0 := by
            simp only [mayB, Bool.and_eq_true, decide_eq_true_eq] at hmm
            rw [hmm.2]
            simp [bareS, h8]
          simp [h8, hb]; split <;> omega
        · by_cases h9 : m.k = 9
          · simp [h9]
          · simp [h7, h8, h9]; omega
    cases ho : outS m i n
    · rw [ho] at hk
      have := hk.1 rfl
      simp only [Bool.false_eq_true, if_false]
      exact ⟨⟨fun h => ⟨this, ih.1.1 h⟩, fun h => ih.1.2 h.2⟩, ih.2⟩
    · simp only [if_true]
      refine ⟨⟨fun h => absurd h (by decide), fun h => ?_⟩, .inr trivial⟩
      have := hk.2 h.1
      rw [ho] at this; cases this
theorem chk_bad : ∀ (l : List Sm) (n i : Nat), (∃ m ∈ l, mayB m = false) → (chk n i l).2 ≠ 0
  | [], n, i, h => by obtain ⟨m, hm, _⟩ := h; cases hm
  | m :: l, n, i, h => by
    simp only [chk]
    cases hm : mayB m
    · simp
    · simp only [if_true]
      split
      · simp
      · obtain ⟨m', hm', hb⟩ := h
        rcases List.mem_cons.1 hm' with rfl | hm'
        · rw [hm] at hb; cases hb
        · exact chk_bad l n (i + 1) ⟨m', hm', hb⟩
end Go.Am
