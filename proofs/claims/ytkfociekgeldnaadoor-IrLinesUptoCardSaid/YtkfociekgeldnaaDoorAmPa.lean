/- Part of the proof: abstract values over the given model of Go (P1, P2). Conditions: none of its own; see the statement in the seat's Rows text. -/
import Derived.Test.YtkfociekgeldnaaDoorAmRb
import Derived.Test.YtkfociekgeldnaaDoorAmUd
import Derived.Lib.ParseIntB
import Derived.Lib.IndexMore
set_option linter.unusedSimpArgs false
set_option linter.unusedVariables false
set_option linter.unusedSectionVars false
namespace Go.Am
open Go.Proofs
def isDig (c : UInt8) : Prop := 48 ≤ c.toNat ∧ c.toNat ≤ 57
theorem dec_dig (u : Nat) : ∀ c ∈ Lib.decDigits u, isDig c := by
  induction u using Nat.strongRecOn with
  | _ u ih =>
    intro c hc
    rw [Lib.decDigits] at hc
    split at hc
    · rename_i h
      simp at hc
      subst hc
      simp [isDig]; omega
    · rename_i h
      rw [List.mem_append] at hc
      rcases hc with hc | hc
      · exact ih (u / 10) (by omega) c hc
      · simp at hc
        subst hc
        simp [isDig]; omega
def numOf (l : List UInt8) : Nat := l.foldl (fun a c => a * 10 + (c.toNat - 48)) 0
theorem numOf_dec (u : Nat) : numOf (Lib.decDigits u) = u := by
  induction u using Nat.strongRecOn with
  | _ u ih =>
    rw [Lib.decDigits]
    split
    · rename_i h
      simp [numOf]; omega
    · rename_i h
      have := ih (u / 10) (by omega)
      simp only [numOf, List.foldl_append, List.foldl_cons, List.foldl_nil] at this ⊢
      rw [this]
      simp; omega
theorem dec_ne (u : Nat) : Lib.decDigits u ≠ [] := by rw [Lib.decDigits]; split <;> simp
def valOf (a : Nat) (l : List UInt8) : Nat := l.foldl (fun a c => a * 10 + (c.toNat - 48)) a
theorem valOf_ge : ∀ (l : List UInt8) (a : Nat), a ≤ valOf a l
  | [], a => Nat.le_refl _
  | c :: l, a => by
    have := valOf_ge l (a * 10 + (c.toNat - 48))
    show a ≤ valOf (a * 10 + (c.toNat - 48)) l
    omega
theorem parse10_ok : ∀ (l : List UInt8) (a : Nat), (∀ c ∈ l, isDig c) → valOf a l < 18446744073709551616 → Lib.parseUint10 a l = .ok (valOf a l)
  | [], a, _, _ => rfl
  | c :: l, a, h, hv => by
    have hc := h c (by simp)
    have h1 := valOf_ge l (a * 10 + (c.toNat - 48))
    have h2 : valOf a (c :: l) = valOf (a * 10 + (c.toNat - 48)) l := rfl
    rw [h2] at hv ⊢
    unfold Lib.parseUint10
    rw [if_pos ⟨hc.1, hc.2⟩, if_neg (by omega), if_neg (by omega)]
    exact parse10_ok l _ (fun c hc => h c (by simp [hc])) hv
theorem parseM_ok : ∀ (l : List UInt8) (a : Nat), (∀ c ∈ l, isDig c) → valOf a l < 18446744073709551616 → Lib.parseUintM (2 ^ 64 - 1) a l = .ok (valOf a l)
  | [], a, _, _ => rfl
  | c :: l, a, h, hv => by
    have hc := h c (by simp)
    have h1 := valOf_ge l (a * 10 + (c.toNat - 48))
    have h2 : valOf a (c :: l) = valOf (a * 10 + (c.toNat - 48)) l := rfl
    rw [h2] at hv ⊢
    unfold Lib.parseUintM
    rw [if_pos ⟨hc.1, hc.2⟩, if_neg (by omega), if_neg (by omega)]
    exact parseM_ok l _ (fun c hc => h c (by simp [hc])) hv
theorem valOf_dec (u : Nat) : valOf 0 (Lib.decDigits u) = u := numOf_dec u
theorem dec_cons (u : Nat) : ∃ c r, Lib.decDigits u = c :: r ∧ isDig c := by
  cases h : Lib.decDigits u with
  | nil => exact absurd h (dec_ne u)
  | cons c r => exact ⟨c, r, rfl, dec_dig u c (by rw [h]; simp)⟩
theorem parseInt_itoa (m : Int) (h : i64ok m = true) : Lib.parseIntB 64 (Lib.itoa m) = .ok m := by
  simp only [i64ok, decide_eq_true_eq] at h
  unfold Lib.itoa
  split
  · rename_i hm
    have h3 : Lib.parseUintB 64 (Lib.decDigits m.natAbs) = .ok m.natAbs := by
      unfold Lib.parseUintB
      rw [if_neg (dec_ne _), parseM_ok _ _ (dec_dig _) (by rw [valOf_dec]; omega), valOf_dec]
    unfold Lib.parseIntB
    have e : ((45 : UInt8).toNat = 43 ∨ (45 : UInt8).toNat = 45) := .inr rfl
    have e2 : (45 : UInt8).toNat = 45 := rfl
    simp only [if_pos e, h3]
    rw [if_neg (by simp), if_neg (by omega), if_pos e2]
    congr 1
    omega
  · rename_i hm
    obtain ⟨c, r, h1, h2⟩ := dec_cons m.toNat
    have h3 : Lib.parseUintB 64 (c :: r) = .ok m.toNat := by
      unfold Lib.parseUintB
      rw [if_neg (by simp), ← h1, parseM_ok _ _ (dec_dig _) (by rw [valOf_dec]; omega), valOf_dec]
    have h4 : ¬ (c.toNat = 43 ∨ c.toNat = 45) := by unfold isDig at h2; omega
    have h5 : ¬ c.toNat = 45 := by omega
    rw [h1]
    unfold Lib.parseIntB
    simp only [if_neg h4, h3]
    rw [if_neg (by omega), if_neg (by omega), if_neg h5]
    congr 1
    omega
theorem fold_num : ∀ (d : List UInt8) (a : Nat), (∀ c ∈ d, isDig c) → valOf a d ≤ 9223372036854775808 → d.foldl numF (-(a : Int)) = -(valOf a d : Int)
  | [], a, _, _ => rfl
  | c :: d, a, h, hv => by
    have hc := h c (by simp)
    have h1 := valOf_ge d (a * 10 + (c.toNat - 48))
    have h2 : valOf a (c :: d) = valOf (a * 10 + (c.toNat - 48)) d := rfl
    rw [h2] at hv ⊢
    have e : numF (-(a : Int)) c = -((a * 10 + (c.toNat - 48) : Nat) : Int) := by
      unfold isDig at hc
      unfold numF
      rw [if_pos hc]
      rw [wrap64 (x := 10 * -(a : Int)) (by omega) (by omega), wrap64 (by omega) (by omega)]
      omega
    rw [List.foldl_cons, e]
    exact fold_num d _ (fun c hc => h c (by simp [hc])) hv
theorem dec_len : ∀ (k u : Nat), u < 10 ^ (k + 1) → (Lib.decDigits u).length ≤ k + 1
  | 0, u, h => by rw [Lib.decDigits, dif_pos (by simpa using h)]; simp
  | k + 1, u, h => by
    rw [Lib.decDigits]
    split
    · simp
    · have := dec_len k (u / 10) (by rw [Nat.pow_succ] at h; omega)
      simp only [List.length_append, List.length_cons, List.length_nil]
      omega
theorem itoa20 (n : Int) (h0 : -9223372036854775808 ≤ n) (h1 : n ≤ 9223372036854775807) : (Lib.itoa n).length ≤ 20 := by
  unfold Lib.itoa
  split
  · have := dec_len 18 n.natAbs (by omega)
    simp only [List.length_cons]; omega
  · have := dec_len 18 n.toNat (by omega)
    omega

theorem numI_itoa {n : Int} (h : i64ok n = true) : numI (Lib.itoa n) = n := by unfold numI; rw [parseInt_itoa n h]
theorem numR_itoa {n : Int} (h : i64ok n = true) : numR (Lib.itoa n) = n := by
  have hh := h
  simp only [i64ok, decide_eq_true_eq] at hh
  have hlen := itoa20 n hh.1 hh.2
  unfold numR numA
  rw [if_pos hlen]
  unfold Lib.itoa
  split
  · rename_i hn
    rw [if_pos (by rfl)]
    have e : numF 0 45 = 0 := by unfold numF; rw [if_neg (by decide)]
    rw [List.foldl_cons, e]
    have := fold_num (Lib.decDigits n.natAbs) 0 (dec_dig _) (by rw [valOf_dec]; omega)
    rw [valOf_dec] at this
    simp only [Int.natCast_zero, Int.neg_zero] at this
    rw [this]; omega
  · rename_i hn
    obtain ⟨c, r, h1, h2⟩ := dec_cons n.toNat
    have hne : ¬ (Lib.decDigits n.toNat).head? = some 45 := by
      rw [h1]
      simp only [List.head?_cons, Option.some.injEq]
      rintro rfl
      simp [isDig] at h2
    rw [if_neg hne]
    have := fold_num (Lib.decDigits n.toNat) 0 (dec_dig _) (by rw [valOf_dec]; omega)
    rw [valOf_dec] at this
    simp only [Int.natCast_zero, Int.neg_zero] at this
    rw [this, wrap64 (by omega) (by omega)]; omega
/-! ### what names and figures are made of -/
theorem itoa_chars (n : Int) : ∀ c ∈ Lib.itoa n, c = 45 ∨ isDig c := by
  intro c hc
  unfold Lib.itoa at hc
  split at hc
  · rcases List.mem_cons.1 hc with rfl | hc
    · exact .inl rfl
    · exact .inr (dec_dig _ c hc)
  · exact .inr (dec_dig _ c hc)
theorem itoa_ne (n : Int) : Lib.itoa n ≠ [] := by
  unfold Lib.itoa
  split
  · simp
  · exact dec_ne _
theorem itoa_noname (n : Int) : nameB (Lib.itoa n) = false := by
  cases h : Lib.itoa n with
  | nil => exact absurd h (itoa_ne n)
  | cons c r =>
    have hc := itoa_chars n c (by rw [h]; simp)
    have : smallB c = false := by
      rcases hc with rfl | hc
      · rfl
      · simp [smallB, isDig] at hc ⊢; omega
    simp [nameB, plain, this]
theorem name_word {x : Str} (h : nameB x = true) : x ≠ [] ∧ (∀ c ∈ x, wordB c = true) ∧ keyB x = false := by
  simp only [nameB, plain, Bool.and_eq_true, Bool.not_eq_true', decide_eq_true_eq] at h
  obtain ⟨⟨h1, ⟨⟨h2, _⟩, _⟩, h3⟩, _⟩ := h
  exact ⟨by intro e; rw [e] at h2; simp at h2, List.all_eq_true.1 h3, h1⟩
/-- A word that has no blank and ends no line. -/
def okC (x : Str) : Prop := ∀ c ∈ x, c ≠ 32 ∧ c ≠ 10
theorem okC_name {x : Str} (h : nameB x = true) : okC x := fun c hc => by
  have := (name_word h).2.1 c hc
  constructor <;> (rintro rfl; revert this; decide)
theorem okC_itoa (n : Int) : okC (Lib.itoa n) := fun c hc => by
  rcases itoa_chars n c hc with rfl | h
  · decide
  · constructor <;> (rintro rfl; revert h; simp [isDig])
theorem okC_op {x : Str} (h : opB x = true) : okC x := by
  simp only [opB, Bool.or_eq_true, beq_iff_eq] at h
  rcases h with (((h | h) | h) | h) | h <;> subst h <;> (intro c hc; simp at hc; subst hc; decide)
theorem okC_eq : okC [61] := by intro c hc; simp at hc; subst hc; decide
theorem okC_kw {x : Str} (h : x = kSource ∨ x = kClean ∨ x = kSink ∨ x = kBranch ∨ x = kJump ∨ x = kReturn) : okC x := by
  rcases h with h | h | h | h | h | h <;> subst h <;> (intro c hc; simp at hc; rcases hc with hc | hc | hc | hc | hc | hc) <;> (try subst hc) <;> (try decide) <;> simp_all
theorem words_ok {m : Sm} (h : mayB m = true) : ∀ x ∈ wordsL m, okC x := by
  obtain ⟨k, x, y, z, o, n, a, b⟩ := m
  simp only [mayB, Bool.and_eq_true, decide_eq_true_eq] at h
  obtain ⟨h1, _⟩ := h
  have s1 := okC_kw (x := kSource) (by simp)
  have s2 := okC_kw (x := kClean) (by simp)
  have s3 := okC_kw (x := kSink) (by simp)
  have s4 := okC_kw (x := kBranch) (by simp)
  have s5 := okC_kw (x := kJump) (by simp)
  have s6 := okC_kw (x := kReturn) (by simp)
  simp only [fitS, wordsL] at h1 ⊢
  intro u hu
  split at h1
  · rename_i e; simp only [e, if_true, List.mem_cons, List.not_mem_nil, or_false] at hu
    rcases hu with rfl | rfl | rfl
    · exact okC_name h1
    · exact okC_eq
    · exact okC_itoa _
  split at h1
  · rename_i e0 e; simp [e] at hu; simp only [Bool.and_eq_true] at h1
    rcases hu with rfl | rfl | rfl | rfl | rfl
    · exact okC_name h1.1.1
    · exact okC_eq
    · exact okC_name h1.1.2.1
    · exact okC_op h1.2
    · exact okC_name h1.1.2.2
  split at h1
  · rename_i e0 e1 e; simp [e] at hu; simp only [Bool.and_eq_true] at h1
    rcases hu with rfl | rfl | rfl
    · exact okC_name h1.1
    · exact okC_eq
    · exact okC_name h1.2
  split at h1
  · rename_i e0 e1 e2 e; simp [e] at hu
    rcases hu with rfl | rfl | rfl
    · exact okC_name h1
    · exact okC_eq
    · exact s1
  split at h1
  · rename_i e0 e1 e2 e3 e; simp [e] at hu; simp only [Bool.and_eq_true] at h1
    rcases hu with rfl | rfl | rfl | rfl
    · exact okC_name h1.1
    · exact okC_eq
    · exact s2
    · exact okC_name h1.2
  split at h1
  · rename_i e0 e1 e2 e3 e4 e; simp [e] at hu
    rcases hu with rfl | rfl
    · exact s3
    · exact okC_name h1
  split at h1
  · rename_i e0 e1 e2 e3 e4 e5 e; simp [e] at hu; simp only [Bool.and_eq_true] at h1
    rcases hu with rfl | rfl | rfl | rfl
    · exact s4
    · exact okC_name h1.1.1
    · exact okC_itoa _
    · exact okC_itoa _
  split at h1
  · rename_i e0 e1 e2 e3 e4 e5 e6 e; simp [e] at hu
    rcases hu with rfl | rfl
    · exact s5
    · exact okC_itoa _
  · rename_i e0 e1 e2 e3 e4 e5 e6 e7
    simp [e0, e1, e2, e3, e4, e5, e6, e7] at hu
    subst hu
    exact s6
theorem words_ne (m : Sm) : wordsL m ≠ [] := by
  unfold wordsL
  repeat' split
  all_goals simp
/-! ### pieces -/
theorem splitC_app (c : UInt8) (sv : Nat) : ∀ (x r : Str), c ∉ x → splitC c sv (x ++ c :: r) = (x ++ [c].take sv) :: splitC c sv r
  | [], r, _ => by simp [splitC]
  | b :: x, r, h => by
    have hb : (b == c) = false := by simp; rintro rfl; simp at h
    have ih := splitC_app c sv x r (by intro hc; exact h (by simp [hc]))
    simp only [List.cons_append, splitC, hb, Bool.false_eq_true, if_false, ih]
theorem splitC_one (c : UInt8) (sv : Nat) : ∀ x : Str, c ∉ x → splitC c sv x = [x]
  | [], _ => rfl
  | b :: x, h => by
    have hb : (b == c) = false := by simp; rintro rfl; simp at h
    simp only [splitC, hb, Bool.false_eq_true, if_false, splitC_one c sv x (by intro hc; exact h (by simp [hc]))]
theorem split_join : ∀ ws : List Str, ws ≠ [] → (∀ w ∈ ws, okC w) → splitC 32 0 (Lib.join ws [32]) = ws
  | [], h, _ => absurd rfl h
  | [x], _, h => by
    rw [Lib.join_one]
    exact splitC_one 32 0 x fun hc => (h x (by simp) 32 hc).1 rfl
  | x :: y :: l, _, h => by
    rw [join_cc, List.append_assoc, List.singleton_append, splitC_app 32 0 x _ fun hc => (h x (by simp) 32 hc).1 rfl, split_join (y :: l) (by simp) fun w hw => h w (by simp [hw])]
    simp
theorem join_no10 : ∀ ws : List Str, (∀ w ∈ ws, okC w) → (10 : UInt8) ∉ Lib.join ws [32]
  | [], _ => by simp [Lib.join]
  | [x], h => by rw [Lib.join_one]; exact fun hc => (h x (by simp) 10 hc).2 rfl
  | x :: y :: l, h => by
    rw [join_cc]
    simp only [List.mem_append, List.mem_singleton, not_or]
    exact ⟨⟨fun hc => (h x (by simp) 10 hc).2 rfl, by decide⟩, join_no10 (y :: l) fun w hw => h w (by simp [hw])⟩
theorem line_split {m : Sm} (h : mayB m = true) : splitC 32 0 (lineS m) = wordsL m := split_join _ (words_ne m) (words_ok h)
theorem line_no10 {m : Sm} (h : mayB m = true) : (10 : UInt8) ∉ lineS m := join_no10 _ (words_ok h)
theorem trim_line (y : Str) : Lib.trimSuffix (y ++ [10]) [10] = y := by
  unfold Lib.trimSuffix Lib.hasSuffix
  rw [if_pos (by simp)]
  simp
end Go.Am
namespace Go.Am
open Go.Proofs
theorem name_ne {x : Str} (h : nameB x = true) : x ≠ kSource ∧ x ≠ kClean ∧ x ≠ kSink ∧ x ≠ kBranch ∧ x ≠ kJump ∧ x ≠ kReturn := by
  have := (name_word h).2.2
  simp only [keyB, Bool.or_eq_false_iff, beq_eq_false_iff_ne, ne_eq] at this
  exact ⟨this.1.1.1.1.1, this.1.1.1.1.2, this.1.1.1.2, this.1.1.2, this.1.2, this.2⟩
theorem kw_ne_itoa (n : Int) : Lib.itoa n ≠ kSource ∧ Lib.itoa n ≠ kClean := by
  have hc := itoa_chars n
  constructor <;> (intro e; rw [e] at hc; have := hc _ List.mem_cons_self; revert this; simp [isDig])
theorem told_words {m : Sm} (h : mayB m = true) (hi : okI m = true) : toldS (wordsL m) = m := by
  obtain ⟨k, x, y, z, o, n, a, b⟩ := m
  simp only [mayB, Bool.and_eq_true, decide_eq_true_eq] at h
  obtain ⟨h1, h2⟩ := h
  simp only [okI, Bool.and_eq_true] at hi
  obtain ⟨⟨hn, ha⟩, hb⟩ := hi
  by_cases c1 : k = 1
  · subst c1; simp [fitS, bareS] at h1 h2; obtain ⟨rfl, rfl, rfl, rfl, rfl⟩ := h2
    have k1 := kw_ne_itoa n
    have q1 : (kSource == Lib.itoa n) = false := by simpa using fun e => k1.1 e.symm
    have q2 := itoa_noname n
    simp [wordsL, toldS, likeB, q1, q2, numI_itoa hn]
  by_cases c2 : k = 2
  · subst c2; simp [fitS, bareS] at h1 h2; obtain ⟨rfl, rfl, rfl⟩ := h2
    simp [wordsL, toldS, likeB]
  by_cases c3 : k = 3
  · subst c3; simp [fitS, bareS] at h1 h2; obtain ⟨rfl, rfl, rfl, rfl, rfl⟩ := h2
    have q1 : (kSource == y) = false := by simpa using fun e => (name_ne h1.2).1 e.symm
    simp [wordsL, toldS, likeB, q1, h1.2]
  by_cases c4 : k = 4
  · subst c4; simp [fitS, bareS] at h1 h2; obtain ⟨rfl, rfl, rfl, rfl, rfl, rfl⟩ := h2
    simp [wordsL, toldS, likeB]
  by_cases c5 : k = 5
  · subst c5; simp [fitS, bareS] at h1 h2; obtain ⟨rfl, rfl, rfl, rfl, rfl⟩ := h2
    have q1 : (kBranch == x) = false := by simpa using fun e => (name_ne h1.1).2.2.2.1 e.symm
    simp [wordsL, toldS, likeB, q1]
  by_cases c6 : k = 6
  · subst c6; simp [fitS, bareS] at h1 h2; obtain ⟨rfl, rfl, rfl, rfl, rfl, rfl⟩ := h2
    simp [wordsL, toldS, likeB]
  by_cases c7 : k = 7
  · subst c7; simp [fitS, bareS] at h1 h2; obtain ⟨rfl, rfl, rfl, rfl⟩ := h2
    simp [wordsL, toldS, likeB, numI_itoa ha, numI_itoa hb]
  by_cases c8 : k = 8
  · subst c8; simp [fitS, bareS] at h1 h2; obtain ⟨rfl, rfl, rfl, rfl, rfl, rfl⟩ := h2
    simp [wordsL, toldS, likeB, numI_itoa ha]
  simp [fitS, c1, c2, c3, c4, c5, c6, c7, c8] at h1
  subst h1
  simp [bareS] at h2; obtain ⟨rfl, rfl, rfl, rfl, rfl, rfl, rfl⟩ := h2
  simp [wordsL, toldS, likeB]
theorem guess_words {m : Sm} (h : mayB m = true) (hi : okI m = true) : guessW (wordsL m) = m := by
  obtain ⟨k, x, y, z, o, n, a, b⟩ := m
  simp only [mayB, Bool.and_eq_true, decide_eq_true_eq] at h
  obtain ⟨h1, h2⟩ := h
  simp only [okI, Bool.and_eq_true] at hi
  obtain ⟨⟨hn, ha⟩, hb⟩ := hi
  by_cases c1 : k = 1
  · subst c1; simp [fitS, bareS] at h1 h2; obtain ⟨rfl, rfl, rfl, rfl, rfl⟩ := h2
    have k1 := kw_ne_itoa n
    obtain ⟨n1, n2, n3, n4, n5, n6⟩ := name_ne h1
    have q2 := itoa_noname n
    simp [wordsL, guessW, atW, k1.1, k1.2, n3, n4, n5, n6, q2, numR_itoa hn]
  by_cases c2 : k = 2
  · subst c2; simp [fitS, bareS] at h1 h2; obtain ⟨rfl, rfl, rfl⟩ := h2
    obtain ⟨n1, n2, n3, n4, n5, n6⟩ := name_ne h1.1.1
    obtain ⟨m1, m2, m3, m4, m5, m6⟩ := name_ne h1.1.2.1
    simp [wordsL, guessW, atW, n3, n4, n5, n6, m1, m2]
  by_cases c3 : k = 3
  · subst c3; simp [fitS, bareS] at h1 h2; obtain ⟨rfl, rfl, rfl, rfl, rfl⟩ := h2
    obtain ⟨n1, n2, n3, n4, n5, n6⟩ := name_ne h1.1
    obtain ⟨m1, m2, m3, m4, m5, m6⟩ := name_ne h1.2
    simp [wordsL, guessW, atW, n3, n4, n5, n6, m1, m2, h1.2]
  by_cases c4 : k = 4
  · subst c4; simp [fitS, bareS] at h1 h2; obtain ⟨rfl, rfl, rfl, rfl, rfl, rfl⟩ := h2
    obtain ⟨n1, n2, n3, n4, n5, n6⟩ := name_ne h1
    simp [wordsL, guessW, atW, n3, n4, n5, n6]
  by_cases c5 : k = 5
  · subst c5; simp [fitS, bareS] at h1 h2; obtain ⟨rfl, rfl, rfl, rfl, rfl⟩ := h2
    obtain ⟨n1, n2, n3, n4, n5, n6⟩ := name_ne h1.1
    simp [wordsL, guessW, atW, n3, n4, n5, n6]
  by_cases c6 : k = 6
  · subst c6; simp [fitS, bareS] at h1 h2; obtain ⟨rfl, rfl, rfl, rfl, rfl, rfl⟩ := h2
    simp [wordsL, guessW, atW]
  by_cases c7 : k = 7
  · subst c7; simp [fitS, bareS] at h1 h2; obtain ⟨rfl, rfl, rfl, rfl⟩ := h2
    simp [wordsL, guessW, atW, numR_itoa ha, numR_itoa hb]
  by_cases c8 : k = 8
  · subst c8; simp [fitS, bareS] at h1 h2; obtain ⟨rfl, rfl, rfl, rfl, rfl, rfl⟩ := h2
    simp [wordsL, guessW, atW, numR_itoa ha]
  simp [fitS, c1, c2, c3, c4, c5, c6, c7, c8] at h1
  subst h1
  simp [bareS] at h2; obtain ⟨rfl, rfl, rfl, rfl, rfl, rfl, rfl⟩ := h2
  simp [wordsL, guessW, atW]
/-- A line's statement is the one whose line it is. -/
theorem st_line {m : Sm} (h : mayB m = true) (hi : okI m = true) : stOf (lineS m ++ [10]) = m := by
  unfold stOf
  rw [trim_line, line_split h, told_words h hi]
theorem g_line {m : Sm} (h : mayB m = true) (hi : okI m = true) : gOf (lineS m) = m := by
  unfold gOf
  rw [line_split h, guess_words h hi]
theorem stOf_ok (x : Str) (h : x.length ≤ 100000000) : okI (stOf x) = true :=
  (told_ok fun y hy => Nat.le_trans (splitC_mem 32 0 _ y hy) (Nat.le_trans (trim_len x [10]) h)).2
theorem gOf_ok (x : Str) (h : x.length ≤ 100000) : okI (gOf x) = true :=
  (guess_ok fun y hy => Nat.le_trans (splitC_mem 32 0 _ y hy) h).2
theorem good_iff (y : Str) (h : y.length ≤ 90000) : goodL (y ++ [10]) = goodR y ∧ (goodR y = true → stOf (y ++ [10]) = gOf y) := by
  have hl : goodL (y ++ [10]) = true → goodR y = true ∧ stOf (y ++ [10]) = gOf y := by
    intro hg
    simp only [goodL, Bool.and_eq_true, beq_iff_eq] at hg
    obtain ⟨h1, h2⟩ := hg
    have h3 : lineS (stOf (y ++ [10])) = y := List.append_cancel_right h2
    have h4 := g_line h1 (stOf_ok _ (by simp; omega))
    rw [h3] at h4
    exact ⟨by rw [goodR, h4, h1, h3]; simp, h4.symm⟩
  have hr : goodR y = true → goodL (y ++ [10]) = true := by
    intro hg
    simp only [goodR, Bool.and_eq_true, beq_iff_eq] at hg
    obtain ⟨h1, h2⟩ := hg
    have h4 := st_line h1 (gOf_ok y (by omega))
    rw [h2] at h4
    rw [goodL, h4, h1, h2]; simp
  refine ⟨?_, fun hg => (hl (hr hg)).2⟩
  cases hx : goodL (y ++ [10])
  · cases hy : goodR y
    · rfl
    · rw [hr hy] at hx; cases hx
  · exact (hl hx).1.symm
theorem part_bad (y : Str) (h : (10 : UInt8) ∉ y) : goodL y = false := by
  cases hg : goodL y
  · rfl
  · simp only [goodL, Bool.and_eq_true, beq_iff_eq] at hg
    exact absurd (by rw [← hg.2]; simp) h
/-- Lines with their ends, and without. -/
theorem split_ends (c : UInt8) : ∀ (x : Str) (E : List Str) (v : Str), splitC c 0 x = E ++ [v] → splitC c 1 x = E.map (· ++ [c]) ++ [v]
  | [], E, v, h => by
    simp only [splitC] at h ⊢
    cases E with
    | nil => simpa using h
    | cons e E => simp at h
  | b :: x, E, v, h => by
    by_cases hb : b = c
    · subst hb
      simp only [splitC, beq_self_eq_true, if_true, List.take_zero] at h ⊢
      cases E with
      | nil =>
        simp at h
        obtain ⟨p, q, e⟩ := splitC_ne b 0 x
        rw [h.2] at e; cases e
      | cons e E =>
        simp only [List.cons_append, List.cons.injEq] at h
        obtain ⟨rfl, h⟩ := h
        rw [split_ends b x E v h]
        simp
    · have hb' : (b == c) = false := by simpa using hb
      simp only [splitC, hb', Bool.false_eq_true, if_false] at h ⊢
      obtain ⟨p, q, e⟩ := splitC_ne c 0 x
      rw [e] at h
      simp only at h
      cases E with
      | nil =>
        simp only [List.nil_append, List.cons.injEq] at h
        obtain ⟨rfl, rfl⟩ := h
        rw [split_ends c x [] p (by rw [e]; rfl)]
        simp
      | cons d E =>
        simp only [List.cons_append, List.cons.injEq] at h
        obtain ⟨rfl, rfl⟩ := h
        rw [split_ends c x (p :: E) v (by rw [e]; rfl)]
        simp
theorem split_no (c : UInt8) : ∀ (x : Str) (y : Str), y ∈ splitC c 0 x → c ∉ y
  | [], y, h => by simp [splitC] at h; subst h; simp
  | b :: x, y, h => by
    by_cases hb : b = c
    · subst hb
      simp only [splitC, beq_self_eq_true, if_true, List.take_zero, List.mem_cons] at h
      rcases h with rfl | h
      · simp
      · exact split_no b x y h
    · have hb' : (b == c) = false := by simpa using hb
      simp only [splitC, hb', Bool.false_eq_true, if_false] at h
      obtain ⟨p, q, e⟩ := splitC_ne c 0 x
      rw [e] at h
      rcases List.mem_cons.1 h with rfl | h
      · have := split_no c x p (by rw [e]; simp)
        simp [this]; exact fun e => hb e.symm
      · exact split_no c x y (by rw [e]; simp [h])
theorem findIdx_map {α β : Type} (f : α → β) (p : β → Bool) : ∀ l : List α, (l.map f).findIdx p = l.findIdx fun x => p (f x)
  | [] => rfl
  | x :: l => by simp only [List.map_cons, List.findIdx_cons, findIdx_map f p l]
theorem findIdx_congr {α : Type} {p q : α → Bool} : ∀ l : List α, (∀ x ∈ l, p x = q x) → l.findIdx p = l.findIdx q
  | [], _ => rfl
  | x :: l, h => by simp only [List.findIdx_cons, h x (by simp), findIdx_congr l fun x hx => h x (by simp [hx])]
theorem findIdx_app {α : Type} {p : α → Bool} : ∀ (l r : List α), (∃ x ∈ l, p x = true) → (l ++ r).findIdx p = l.findIdx p
  | [], r, h => by obtain ⟨x, hx, _⟩ := h; cases hx
  | x :: l, r, h => by
    simp only [List.cons_append, List.findIdx_cons]
    cases hp : p x
    · obtain ⟨y, hy, hpy⟩ := h
      rcases List.mem_cons.1 hy with rfl | hy
      · rw [hp] at hpy; cases hpy
      · simp only [cond_false]; rw [findIdx_app l r ⟨y, hy, hpy⟩]
    · rfl
theorem findIdx_app2 {α : Type} {p : α → Bool} : ∀ (l r : List α), (∀ x ∈ l, p x = false) → (l ++ r).findIdx p = l.length + r.findIdx p
  | [], r, _ => by simp
  | x :: l, r, h => by
    simp only [List.cons_append, List.findIdx_cons, h x (by simp), cond_false, List.length_cons, findIdx_app2 l r fun x hx => h x (by simp [hx])]
    omega
/-- Both read a text alike. -/
theorem parse_same (x : Str) (hl : x.length ≤ 80000) (E : List Str) (v : Str) (hE : splitC 10 0 x = E ++ [v]) : parseS x = parseD E v := by
  have h1 := split_ends 10 x E v hE
  have hm : ∀ y ∈ E, y.length ≤ 80000 := fun y hy => Nat.le_trans (splitC_mem 10 0 x y (by rw [hE]; simp [hy])) hl
  have hgood : ∀ y ∈ E, goodL (y ++ [10]) = goodR y := fun y hy => (good_iff y (by have := hm y hy; omega)).1
  have hall : (E.map (· ++ [10])).all goodL = E.all goodR := by
    rw [List.all_map, Bool.eq_iff_iff, List.all_eq_true, List.all_eq_true]
    exact ⟨fun h y hy => by rw [← hgood y hy]; exact h y hy, fun h y hy => by show goodL (y ++ [10]) = true; rw [hgood y hy]; exact h y hy⟩
  have hidx : (E.map (· ++ [10])).findIdx (fun y => !goodL y) = E.findIdx fun y => !goodR y := by
    rw [findIdx_map]
    exact findIdx_congr E fun y hy => by rw [hgood y hy]
  have hmap : E.all goodR = true → (E.map (· ++ [10])).map stOf = E.map gOf := fun h => by
    rw [List.map_map]
    exact List.map_congr_left fun y hy => (good_iff y (by have := hm y hy; omega)).2 (List.all_eq_true.1 h y hy)
  by_cases hv : v = []
  · subst hv
    have hL : linesOf x = E.map (· ++ [10]) := by unfold linesOf; rw [h1]; simp
    unfold parseS parseD
    rw [hL, List.length_map]
    simp only [if_true, Nat.add_zero]
    split
    · rfl
    · rw [hall]
      split
      · rename_i h; rw [hmap h]
      · rw [hidx]
  · have hL : linesOf x = E.map (· ++ [10]) ++ [v] := by unfold linesOf; rw [h1]; simp [hv]
    have hbad : goodL v = false := part_bad v (split_no 10 x v (by rw [hE]; simp))
    unfold parseS parseD
    rw [hL]
    simp only [List.length_append, List.length_map, List.length_singleton, if_neg hv, List.all_append, hall, List.all_cons, List.all_nil, hbad, Bool.false_and, Bool.and_false, Bool.false_eq_true, if_false]
    split
    · rfl
    · split
      · rename_i h
        have : (E.map (· ++ [10]) ++ [v]).findIdx (fun y => !goodL y) = E.length := by
          rw [findIdx_app2 _ _ fun y hy => ?_]
          · simp [hbad]
          · obtain ⟨u, hu, rfl⟩ := List.mem_map.1 hy
            rw [hgood u hu, List.all_eq_true.1 h u hu]; rfl
        rw [this]
      · rename_i h
        have hex : ∃ y ∈ E.map (· ++ [10]), (!goodL y) = true := by
          obtain ⟨u, hu, hb⟩ := List.all_eq_false.1 (by simpa using h)
          exact ⟨u ++ [10], List.mem_map.2 ⟨u, hu, rfl⟩, by rw [hgood u hu]; simpa using hb⟩
        rw [findIdx_app _ _ hex, hidx]
end Go.Am
