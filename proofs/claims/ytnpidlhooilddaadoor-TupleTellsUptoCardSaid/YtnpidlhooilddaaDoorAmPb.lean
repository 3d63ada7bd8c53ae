/- Part of the proof: abstract values over the given model of Go (PlB). Conditions: none of its own; see the statement in the seat's Rows text. -/
import Derived.Test.YtnpidlhooilddaaDoorAmPl
import Derived.Lib.ParseIntB
import Derived.Lib.IndexMore
set_option linter.unusedSimpArgs false
set_option linter.unusedVariables false
set_option linter.unusedSectionVars false
namespace Go.Am
/-! ### numerals, read again -/
def valOf (a : Nat) (l : List UInt8) : Nat := l.foldl (fun a c => a * 10 + (c.toNat - 48)) a
theorem valOf_ge : ∀ (l : List UInt8) (a : Nat), a ≤ valOf a l
  | [], a => Nat.le_refl _
  | c :: l, a => by
    have := valOf_ge l (a * 10 + (c.toNat - 48))
    show a ≤ valOf (a * 10 + (c.toNat - 48)) l
    omega
theorem parse10_ok : ∀ (l : List UInt8) (a : Nat), (∀ c ∈ l, isDig c) → valOf a l < 18446744073709551616 → Lib.parseUint10 a l = .ok (valOf a l)
  | [], a, _, _ => rfl
  | c :: l, a, h, hv => by
    have hc := h c (by simp)
    have h1 := valOf_ge l (a * 10 + (c.toNat - 48))
    have h2 : valOf a (c :: l) = valOf (a * 10 + (c.toNat - 48)) l := rfl
    rw [h2] at hv ⊢
    unfold Lib.parseUint10
    rw [if_pos ⟨hc.1, hc.2⟩, if_neg (by omega), if_neg (by omega)]
    exact parse10_ok l _ (fun c hc => h c (by simp [hc])) hv
theorem parseM_ok : ∀ (l : List UInt8) (a : Nat), (∀ c ∈ l, isDig c) → valOf a l < 18446744073709551616 → Lib.parseUintM (2 ^ 64 - 1) a l = .ok (valOf a l)
  | [], a, _, _ => rfl
  | c :: l, a, h, hv => by
    have hc := h c (by simp)
    have h1 := valOf_ge l (a * 10 + (c.toNat - 48))
    have h2 : valOf a (c :: l) = valOf (a * 10 + (c.toNat - 48)) l := rfl
    rw [h2] at hv ⊢
    unfold Lib.parseUintM
    rw [if_pos ⟨hc.1, hc.2⟩, if_neg (by omega), if_neg (by omega)]
    exact parseM_ok l _ (fun c hc => h c (by simp [hc])) hv
theorem valOf_dec (u : Nat) : valOf 0 (Lib.decDigits u) = u := numOf_dec u
theorem dec_cons (u : Nat) : ∃ c r, Lib.decDigits u = c :: r ∧ isDig c := by
  cases h : Lib.decDigits u with
  | nil => exact absurd h (dec_ne u)
  | cons c r => exact ⟨c, r, rfl, dec_dig u c (by rw [h]; simp)⟩
theorem atoi_dec (u : Nat) (h : u < 9223372036854775808) : Lib.atoiAll (Lib.decDigits u) = .ok (u : Int) := by
  obtain ⟨c, r, h1, h2⟩ := dec_cons u
  have h3 : Lib.parseMag (c :: r) = .ok u := by
    unfold Lib.parseMag
    rw [if_neg (by simp), ← h1, parse10_ok _ _ (dec_dig u) (by rw [valOf_dec]; omega), valOf_dec]
  have h4 : ¬ (c.toNat = 43 ∨ c.toNat = 45) := by unfold isDig at h2; omega
  have h5 : ¬ c.toNat = 45 := by omega
  rw [h1]
  unfold Lib.atoiAll
  simp only [if_neg h4, h3]
  rw [if_neg (by omega), if_neg (by omega), if_neg h5]
theorem parseInt_itoa (m : Int) (h : i64ok m = true) : Lib.parseIntB 64 (Lib.itoa m) = .ok m := by
  simp only [i64ok, decide_eq_true_eq] at h
  unfold Lib.itoa
  split
  · rename_i hm
    have h3 : Lib.parseUintB 64 (Lib.decDigits m.natAbs) = .ok m.natAbs := by
      unfold Lib.parseUintB
      rw [if_neg (dec_ne _), parseM_ok _ _ (dec_dig _) (by rw [valOf_dec]; omega), valOf_dec]
    unfold Lib.parseIntB
    have e : ((45 : UInt8).toNat = 43 ∨ (45 : UInt8).toNat = 45) := .inr rfl
    have e2 : (45 : UInt8).toNat = 45 := rfl
    simp only [if_pos e, h3]
    rw [if_neg (by simp), if_neg (by omega), if_pos e2]
    congr 1
    omega
  · rename_i hm
    obtain ⟨c, r, h1, h2⟩ := dec_cons m.toNat
    have h3 : Lib.parseUintB 64 (c :: r) = .ok m.toNat := by
      unfold Lib.parseUintB
      rw [if_neg (by simp), ← h1, parseM_ok _ _ (dec_dig _) (by rw [valOf_dec]; omega), valOf_dec]
    have h4 : ¬ (c.toNat = 43 ∨ c.toNat = 45) := by unfold isDig at h2; omega
    have h5 : ¬ c.toNat = 45 := by omega
    rw [h1]
    unfold Lib.parseIntB
    simp only [if_neg h4, h3]
    rw [if_neg (by omega), if_neg (by omega), if_neg h5]
    congr 1
    omega
theorem parseInt_i64 {l : List UInt8} {m : Int} (h : Lib.parseIntB 64 l = .ok m) : i64ok m = true := by
  unfold Lib.parseIntB at h
  split at h
  · cases h
  · simp only at h
    split at h
    · cases h
    · cases h
    · split at h
      · cases h
      · split at h
        · cases h
        · cases h
          simp only [i64ok, decide_eq_true_eq]
          split <;> omega
/-! ### a key, read again -/
theorem isPre_one (b : UInt8) (l : List UInt8) : [58].isPrefixOf (b :: l) = (58 == b) := by simp [List.isPrefixOf]
theorem index_split (l r : List UInt8) (h : ∀ c ∈ l, c ≠ 58) : Lib.index (l ++ 58 :: r) [58] = l.length := by
  induction l with
  | nil => simp [Lib.index]
  | cons c l ih =>
    have hc : ¬ (58 : UInt8) = c := fun e => h c (by simp) e.symm
    have h1 := ih fun x hx => h x (by simp [hx])
    show Lib.index (c :: (l ++ 58 :: r)) [58] = _
    unfold Lib.index
    rw [isPre_one, h1]
    simp [hc]
theorem cut_split (l r : List UInt8) (h : ∀ c ∈ l, c ≠ 58) : Lib.cut (l ++ 58 :: r) [58] = (l, r, true) := by
  unfold Lib.cut
  rw [index_split l r h]
  simp
/-- part. -/
def partS (s : List UInt8) : V × List UInt8 × Bool :=
  let c := Lib.cut (s.drop 1) [58]
  match c.2.2, Lib.atoiAll c.1 with
  | true, .ok n => if n < 0 ∨ (c.2.1.length : Int) < n then (⟨false, [], 0⟩, [], false) else
      if s.take 1 = [115] then (⟨true, c.2.1.take n.toNat, 0⟩, c.2.1.drop n.toNat, true) else
      match Lib.parseIntB 64 (c.2.1.take n.toNat) with
      | .ok m => (⟨false, [], m⟩, c.2.1.drop n.toNat, true)
      | .range => (⟨false, [], Lib.intSat 64 (c.2.1.take n.toNat)⟩, c.2.1.drop n.toNat, false)
      | _ => (⟨false, [], 0⟩, c.2.1.drop n.toNat, false)
  | _, _ => (⟨false, [], 0⟩, [], false)
theorem cut_len (s : List UInt8) : (Lib.cut s [58]).2.1.length ≤ s.length ∧ (Lib.cut s [58]).1.length ≤ s.length := by
  unfold Lib.cut
  split <;> simp <;> omega
theorem part_less {s r : List UInt8} {v : V} (hs : s ≠ []) (h : partS s = (v, r, true)) : v.s.length + r.length < s.length ∧ i64ok v.n = true := by
  have h1 := (cut_len (s.drop 1)).1
  have h2 : 0 < s.length := List.length_pos_iff.2 hs
  rw [List.length_drop] at h1
  unfold partS at h
  simp only at h
  split at h
  · split at h
    · cases h
    · rename_i hn
      split at h
      · cases h
        simp only [List.length_take, List.length_drop]
        exact ⟨by omega, by decide⟩
      · split at h
        · rename_i m hm
          cases h
          simp only [List.length_drop, List.length_nil]
          exact ⟨by omega, parseInt_i64 hm⟩
        · cases h
        · cases h
  · cases h
theorem part_key (v : V) (r : List UInt8) (hv : i64ok v.n = true) (hs : v.s.length < 4611686018427387904) : partS (keyV v ++ r) = (bareV v, r, true) := by
  have e : keyV v ++ r = (if v.b then 115 else 110) :: (Lib.decDigits (txtV v).length ++ 58 :: (txtV v ++ r)) := by
    have hi : ∀ n : Nat, Lib.itoa (n : Int) = Lib.decDigits n := fun n => by unfold Lib.itoa; rw [if_neg (by omega)]; simp
    unfold keyV
    rw [hi]
    cases v.b <;> simp
  have no : ∀ u, ∀ x ∈ Lib.decDigits u, x ≠ 58 := fun u x hx e => by
    have := dec_dig u x hx
    subst e
    simp [isDig] at this
  have hi := hv
  simp only [i64ok, decide_eq_true_eq] at hi
  have ht : (txtV v).length < 9223372036854775808 := by
    unfold txtV
    split
    · omega
    · have := Lib.itoa_length_le v.n hi.1 hi.2; omega
  have hc : Lib.cut ((keyV v ++ r).drop 1) [58] = (Lib.decDigits (txtV v).length, txtV v ++ r, true) := by
    rw [e, List.drop_succ_cons, List.drop_zero]
    exact cut_split _ _ (no _)
  have ha := atoi_dec (txtV v).length ht
  unfold partS
  simp only [hc, ha]
  rw [if_neg (by simp; omega)]
  have h1 : (txtV v ++ r).take ((txtV v).length : Int).toNat = txtV v := by simp
  have h2 : (txtV v ++ r).drop ((txtV v).length : Int).toNat = r := by simp
  rw [h1, h2, e]
  cases hb : v.b
  · simp only [hb, List.take_succ_cons, List.take_zero]
    rw [if_neg (by simp)]
    have : txtV v = Lib.itoa v.n := by simp [txtV, hb]
    rw [this, parseInt_itoa v.n hv]
    simp [bareV, hb]
  · simp [txtV, bareV, hb]
/-- Back's loop. -/
def backL : Nat → List UInt8 → Option (List V)
  | 0, _ => none
  | n + 1, s => if s = [] then some [] else match partS s with
    | (v, r, true) => (backL n r).map (v :: ·)
    | _ => none
theorem back_key : ∀ (l : List V) (n : Nat), (∀ v ∈ l, i64ok v.n = true ∧ v.s.length < 4611686018427387904) → (keyT l).length < n → backL n (keyT l) = some (l.map bareV)
  | [], n + 1, _, _ => rfl
  | v :: l, n + 1, h, hn => by
    rw [keyT_cons] at hn ⊢
    have hv := h v (by simp)
    have h1 : 0 < (keyV v).length := List.length_pos_iff.2 (keyV_ne v)
    rw [List.length_append] at hn
    unfold backL
    rw [if_neg (by have := keyV_ne v; simp [this]), part_key v _ hv.1 hv.2]
    simp only
    rw [back_key l n (fun u hu => h u (by simp [hu])) (by omega)]
    rfl
def VsizeL (l : List V) : Nat := (l.map fun v => v.s.length + 1).sum
theorem back_size : ∀ (n : Nat) (s : List UInt8) (l : List V), backL n s = some l → VsizeL l ≤ s.length ∧ ∀ v ∈ l, i64ok v.n = true
  | 0, s, l, h => by cases h
  | n + 1, s, l, h => by
    unfold backL at h
    split at h
    · cases h; simp [VsizeL]
    · rename_i hs
      split at h
      · rename_i v r hp
        obtain ⟨l', h1, rfl⟩ := Option.map_eq_some_iff.1 h
        obtain ⟨h2, h3⟩ := back_size n r l' h1
        obtain ⟨h4, h5⟩ := part_less hs hp
        refine ⟨?_, fun u hu => ?_⟩
        · simp only [VsizeL, List.map_cons, List.sum_cons] at h2 ⊢; omega
        · rcases List.mem_cons.1 hu with rfl | hu
          · exact h5
          · exact h3 u hu
      · cases h
theorem key_bare (l : List V) : keyT (l.map bareV) = keyT l := by
  induction l with
  | nil => rfl
  | cons v l ih =>
    rw [List.map_cons, keyT_cons, keyT_cons, ih]
    congr 1
    unfold keyV txtV bareV
    cases v.b <;> simp
theorem key_le : ∀ (l : List V), (∀ v ∈ l, i64ok v.n = true) → VsizeL l ≤ 4611686018427387 → (keyT l).length ≤ 50 * VsizeL l
  | [], _, _ => by simp [keyT]
  | v :: l, h, hs => by
    have hv := h v (by simp)
    simp only [VsizeL, List.map_cons, List.sum_cons] at hs
    have ih := key_le l (fun u hu => h u (by simp [hu])) (by simp only [VsizeL]; omega)
    simp only [i64ok, decide_eq_true_eq] at hv
    have h3 := Lib.itoa_length_le v.n hv.1 hv.2
    have h4 : (txtV v).length ≤ v.s.length + 21 := by unfold txtV; split <;> omega
    have h5 := Lib.itoa_length_le ((txtV v).length : Int) (by omega) (by omega)
    have h6 : (if v.b then [115] else [110] : List UInt8).length = 1 := by split <;> rfl
    have h7 : (keyV v).length ≤ v.s.length + 44 := by
      simp only [keyV, List.length_append, h6, List.length_cons, List.length_nil]
      omega
    rw [keyT_cons, List.length_append]
    simp only [VsizeL, List.map_cons, List.sum_cons] at ih ⊢
    omega
theorem len_Vsize (l : List V) : l.length ≤ VsizeL l := by
  induction l with
  | nil => simp
  | cons v l ih => simp only [VsizeL, List.map_cons, List.sum_cons, List.length_cons] at ih ⊢; omega
theorem ok_of_size (l : List V) (h : ∀ v ∈ l, i64ok v.n = true) (hs : VsizeL l ≤ 100000000) : okT l = true := by
  have h1 := key_le l h (by omega)
  have h2 := len_Vsize l
  simp only [okT, Bool.and_eq_true, decide_eq_true_eq, List.all_eq_true]
  exact ⟨⟨by unfold LIM; omega, h⟩, by omega⟩
end Go.Am
