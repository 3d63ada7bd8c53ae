/- Part of the proof: abstract values over the given model of Go (PlC, PlD). Conditions: none of its own; see the statement in the seat's Rows text. -/
import Derived.Test.YtnpidlhooilddaaDoorAmPb
set_option linter.unusedSimpArgs false
set_option linter.unusedVariables false
set_option linter.unusedSectionVars false
namespace Go.Am
/-! ### the document's numerals -/
def digB (c : UInt8) : Bool := decide (48 ≤ (c.toNat : Int)) && decide ((c.toNat : Int) ≤ 57)
theorem digB_iff {c : UInt8} : digB c = true ↔ isDig c := by
  simp only [digB, isDig, Bool.and_eq_true, decide_eq_true_eq]; omega
def numStep (n : Int) (c : UInt8) : Int := IntKind.i64.wrap (IntKind.i64.wrap (10 * n) - ((c.toNat : Int) - 48))
def numF (d : List UInt8) : Int := d.foldl numStep 0
def negB (s : List UInt8) : Bool := s.head? == some 45
def digs (s : List UInt8) : List UInt8 := if negB s then s.tail else s
def numN (s : List UInt8) : Int := if negB s then numF (digs s) else IntKind.i64.wrap (0 - numF (digs s))
def numOk (s : List UInt8) : Bool := (digs s).all digB && decide (s.length ≤ 20)
def numS (s : List UInt8) : Int × Bool := if numOk s then (numN s, Lib.itoa (numN s) == s) else (0, false)
theorem wrap_ok (x : Int) : i64ok (IntKind.i64.wrap x) = true := by
  simp only [i64ok, decide_eq_true_eq]
  simp [IntKind.wrap, IntKind.signed, IntKind.bits]
  omega
theorem numF_ok (d : List UInt8) : i64ok (numF d) = true := by
  have : ∀ (d : List UInt8) (n : Int), i64ok n = true → i64ok (d.foldl numStep n) = true := by
    intro d
    induction d with
    | nil => exact fun n h => h
    | cons c d ih => exact fun n _ => ih _ (wrap_ok _)
  exact this d 0 (by decide)
theorem numN_ok (s : List UInt8) : i64ok (numN s) = true := by
  unfold numN
  split
  · exact numF_ok _
  · exact wrap_ok _
theorem fold_num : ∀ (d : List UInt8) (a : Nat), (∀ c ∈ d, isDig c) → valOf a d ≤ 9223372036854775808 → d.foldl numStep (-(a : Int)) = -(valOf a d : Int)
  | [], a, _, _ => rfl
  | c :: d, a, h, hv => by
    have hc := h c (by simp)
    have h1 := valOf_ge d (a * 10 + (c.toNat - 48))
    have h2 : valOf a (c :: d) = valOf (a * 10 + (c.toNat - 48)) d := rfl
    rw [h2] at hv ⊢
    have e : numStep (-(a : Int)) c = -((a * 10 + (c.toNat - 48) : Nat) : Int) := by
      unfold numStep
      unfold isDig at hc
      rw [wrap64 (x := 10 * -(a : Int)) (by omega) (by omega), wrap64 (by omega) (by omega)]
      omega
    rw [List.foldl_cons, e]
    exact fold_num d _ (fun c hc => h c (by simp [hc])) hv
theorem dec_len : ∀ (k u : Nat), u < 10 ^ (k + 1) → (Lib.decDigits u).length ≤ k + 1
  | 0, u, h => by rw [Lib.decDigits, dif_pos (by simpa using h)]; simp
  | k + 1, u, h => by
    rw [Lib.decDigits]
    split
    · simp
    · have := dec_len k (u / 10) (by rw [Nat.pow_succ] at h; omega)
      simp only [List.length_append, List.length_cons, List.length_nil]
      omega
theorem itoa20 (n : Int) (h0 : -9223372036854775808 ≤ n) (h1 : n ≤ 9223372036854775807) : (Lib.itoa n).length ≤ 20 := by
  unfold Lib.itoa
  split
  · have := dec_len 18 n.natAbs (by omega)
    simp only [List.length_cons]; omega
  · have := dec_len 18 n.toNat (by omega)
    omega
theorem num_itoa (n : Int) (h : i64ok n = true) : numS (Lib.itoa n) = (n, true) := by
  simp only [i64ok, decide_eq_true_eq] at h
  have hlen : (Lib.itoa n).length ≤ 20 := itoa20 n h.1 h.2
  by_cases hn : n < 0
  · have hs : Lib.itoa n = 45 :: Lib.decDigits n.natAbs := by unfold Lib.itoa; rw [if_pos hn]
    have hneg : negB (Lib.itoa n) = true := by rw [hs]; rfl
    have hd : digs (Lib.itoa n) = Lib.decDigits n.natAbs := by unfold digs; rw [if_pos hneg, hs]; rfl
    have hN : numN (Lib.itoa n) = n := by
      unfold numN numF
      rw [if_pos hneg, hd]
      have := fold_num (Lib.decDigits n.natAbs) 0 (dec_dig _) (by rw [valOf_dec]; omega)
      rw [valOf_dec] at this
      rw [show (0 : Int) = -((0 : Nat) : Int) from rfl, this]
      omega
    have hok : numOk (Lib.itoa n) = true := by
      simp only [numOk, Bool.and_eq_true, decide_eq_true_eq, List.all_eq_true]
      exact ⟨fun c hc => digB_iff.2 (dec_dig _ c (by rw [← hd]; exact hc)), hlen⟩
    unfold numS
    rw [if_pos hok, hN]
    simp
  · have hs : Lib.itoa n = Lib.decDigits n.toNat := by unfold Lib.itoa; rw [if_neg hn]
    obtain ⟨c, r, h1, h2⟩ := dec_cons n.toNat
    have hneg : negB (Lib.itoa n) = false := by
      rw [hs, h1]
      simp only [negB, List.head?_cons]
      rw [beq_eq_false_iff_ne]
      intro e
      have : c = 45 := Option.some.inj e
      subst this
      simp [isDig] at h2
    have hd : digs (Lib.itoa n) = Lib.decDigits n.toNat := by unfold digs; rw [if_neg (by rw [hneg]; simp), hs]
    have hN : numN (Lib.itoa n) = n := by
      unfold numN numF
      rw [if_neg (by rw [hneg]; simp), hd]
      have := fold_num (Lib.decDigits n.toNat) 0 (dec_dig _) (by rw [valOf_dec]; omega)
      rw [valOf_dec] at this
      have e : (Lib.decDigits n.toNat).foldl numStep 0 = -(n.toNat : Int) := this
      rw [e, wrap64 (by omega) (by omega)]
      omega
    have hok : numOk (Lib.itoa n) = true := by
      simp only [numOk, Bool.and_eq_true, decide_eq_true_eq, List.all_eq_true]
      exact ⟨fun c hc => digB_iff.2 (dec_dig _ c (by rw [← hd]; exact hc)), hlen⟩
    unfold numS
    rw [if_pos hok, hN]
    simp
theorem num_true {s : List UInt8} {n : Int} (h : numS s = (n, true)) : Lib.itoa n = s ∧ i64ok n = true := by
  unfold numS at h
  split at h
  · injection h with h1 h2
    subst h1
    exact ⟨by simpa using h2, numN_ok s⟩
  · injection h with h1 h2
    cases h2
end Go.Am
namespace Go.Am
/-! ### the document's rows from texts -/
def upC (l : List UInt8) : List UInt8 := l.takeWhile fun b => b != 58
def partR (r : List UInt8) : Option (V × List UInt8) :=
  match r with
  | [] => none
  | t :: tl => match tl.drop (upC tl).length with
    | [] => none
    | _ :: q => if (numS (upC tl)).2 = false ∨ (numS (upC tl)).1 < 0 ∨ (q.length : Int) < (numS (upC tl)).1 then none else
      if t = 115 then some (⟨true, q.take (numS (upC tl)).1.toNat, 0⟩, q.drop (numS (upC tl)).1.toNat) else
      if t = 110 ∧ (numS (q.take (numS (upC tl)).1.toNat)).2 = true then some (⟨false, [], (numS (q.take (numS (upC tl)).1.toNat)).1⟩, q.drop (numS (upC tl)).1.toNat) else none
theorem upC_take : ∀ (l : List UInt8) (k : Nat), k ≤ l.length → (∀ b ∈ l.take k, b ≠ 58) → (∀ h : k < l.length, l[k] = 58) → upC l = l.take k
  | [], k, _, _, _ => by simp [upC]
  | b :: l, 0, _, _, h => by
    have : b = 58 := h (by simp)
    subst this
    simp [upC]
  | b :: l, k + 1, hk, hb, h => by
    have h0 : b ≠ 58 := hb b (by simp)
    have ih := upC_take l k (by simpa using hk) (fun c hc => hb c (by simp [hc])) (fun hh => by have := h (by simpa using hh); simpa using this)
    unfold upC at ih ⊢
    rw [List.takeWhile_cons, if_pos (by simpa using h0), ih, List.take_succ_cons]
theorem partR_less {r q : List UInt8} {v : V} (h : partR r = some (v, q)) : q.length < r.length ∧ v.s.length + q.length < r.length ∧ i64ok v.n = true ∧ bareV v = v ∧ keyV v ++ q = r := by
  unfold partR at h
  split at h
  · cases h
  · rename_i t tl
    split at h
    · cases h
    · rename_i b q' hq
      split at h
      · cases h
      · rename_i hc
        have hup : tl = upC tl ++ b :: q' := by
          have : (upC tl) = tl.take (upC tl).length := by
            unfold upC
            have := List.takeWhile_prefix (p := fun b => b != 58) (l := tl)
            exact List.prefix_iff_eq_take.1 this
          rw [← hq]
          conv => lhs; rw [← List.take_append_drop (upC tl).length tl]
          rw [← this]
        have hb58 : b = 58 := by
          have h1 : tl.dropWhile (fun b => b != 58) = b :: q' := by
            have h2 : tl.takeWhile (fun b => b != 58) ++ tl.dropWhile (fun b => b != 58) = upC tl ++ b :: q' := by rw [List.takeWhile_append_dropWhile]; exact hup
            exact List.append_cancel_left h2
          have := List.head?_dropWhile_not (p := fun b => b != 58) (l := tl)
          rw [h1] at this
          simpa using this
        subst hb58
        have hlen : (upC tl).length + 1 + q'.length = tl.length := by
          have := congrArg List.length hup
          simp only [List.length_append, List.length_cons] at this
          omega
        have hn : 0 ≤ (numS (upC tl)).1 ∧ (numS (upC tl)).1 ≤ q'.length ∧ (numS (upC tl)).2 = true := by
          refine ⟨by omega, by omega, ?_⟩
          cases h2 : (numS (upC tl)).2
          · exact absurd (Or.inl h2) hc
          · rfl
        generalize hnn : numS (upC tl) = p at *
        obtain ⟨n, is⟩ := p
        simp only at hn h hc
        obtain ⟨hn0, hn1, rfl⟩ := hn
        obtain ⟨hit, _⟩ := num_true hnn
        have htl : (q'.take n.toNat).length = n.toNat := by rw [List.length_take]; omega
        have hkey : ∀ (b : Bool) (m : Int), (if b then q'.take n.toNat else Lib.itoa m) = q'.take n.toNat → keyV ⟨b, if b then q'.take n.toNat else [], m⟩ ++ q'.drop n.toNat = (if b then 115 else 110) :: tl := fun b m he => by
          have ht : txtV ⟨b, if b then q'.take n.toNat else [], m⟩ = q'.take n.toNat := by
            unfold txtV
            cases b
            · simpa using he
            · simp
          have e2 : Lib.itoa (((q'.take n.toNat).length : Nat) : Int) = upC tl := by rw [htl, Int.toNat_of_nonneg hn0]; exact hit
          unfold keyV
          rw [ht, e2]
          conv => rhs; rw [hup]
          cases b <;> simp [List.take_append_drop]
        split at h
        · rename_i ht
          subst ht
          injection h with h
          injection h with h1 h2
          subst h1; subst h2
          refine ⟨?_, ?_, (show i64ok 0 = true by decide), rfl, hkey true 0 rfl⟩
          · simp only [List.length_drop, List.length_cons]; omega
          · simp only [List.length_drop, List.length_cons, htl]; omega
        · split at h
          · rename_i ht
            obtain ⟨rfl, hm⟩ := ht
            injection h with h
            injection h with h1 h2
            subst h1; subst h2
            have hmm : numS (q'.take n.toNat) = ((numS (q'.take n.toNat)).1, true) := by rw [← hm]
            obtain ⟨hmi, hmo⟩ := num_true hmm
            refine ⟨?_, ?_, hmo, rfl, hkey false _ (by simpa using hmi)⟩
            · simp only [List.length_drop, List.length_cons]; omega
            · simp only [List.length_drop, List.length_cons, List.length_nil]; omega
          · cases h
theorem partR_key (v : V) (r : List UInt8) (hv : i64ok v.n = true) (hs : v.s.length < 4611686018427387904) : partR (keyV v ++ r) = some (bareV v, r) := by
  have e : keyV v ++ r = (if v.b then 115 else 110) :: (Lib.itoa ((txtV v).length : Int) ++ 58 :: (txtV v ++ r)) := by
    unfold keyV
    cases v.b <;> simp
  have hi := hv
  simp only [i64ok, decide_eq_true_eq] at hi
  have ht : (txtV v).length < 9223372036854775808 := by
    unfold txtV
    split
    · omega
    · have := Lib.itoa_length_le v.n hi.1 hi.2; omega
  have no : ∀ x ∈ Lib.itoa ((txtV v).length : Int), x ≠ 58 := fun x hx e => by
    have h1 : Lib.itoa ((txtV v).length : Int) = Lib.decDigits (txtV v).length := by unfold Lib.itoa; rw [if_neg (by omega)]; simp
    rw [h1] at hx
    have := dec_dig _ x hx
    subst e
    simp [isDig] at this
  have hup : upC (Lib.itoa ((txtV v).length : Int) ++ 58 :: (txtV v ++ r)) = Lib.itoa ((txtV v).length : Int) := by
    rw [upC_take _ (Lib.itoa ((txtV v).length : Int)).length (by simp) (by simpa using no) (fun h => by simp)]
    simp
  have hnum := num_itoa ((txtV v).length : Int) (by simp only [i64ok, decide_eq_true_eq]; omega)
  rw [e]
  unfold partR
  simp only [hup, List.drop_left, hnum]
  have h1 : (txtV v ++ r).take ((txtV v).length : Int).toNat = txtV v := by simp
  have h2 : (txtV v ++ r).drop ((txtV v).length : Int).toNat = r := by simp
  rw [if_neg (by simp; omega), h1, h2]
  cases hb : v.b
  · have hx : txtV v = Lib.itoa v.n := by simp [txtV, hb]
    rw [hx, num_itoa v.n hv]
    simp [bareV, hb]
  · simp [txtV, bareV, hb]
def backRL : Nat → List UInt8 → Option (List V)
  | 0, _ => none
  | n + 1, s => if s = [] then some [] else match partR s with
    | some (v, r) => (backRL n r).map (v :: ·)
    | none => none
def backR (x : List UInt8) : Option (List V) := backRL (x.length + 1) x
theorem backRL_fuel : ∀ (k m : Nat) (y : List UInt8), y.length < m → m ≤ k → backRL m y = backR y := by
  intro k
  induction k with
  | zero => intro m y h1 h2; omega
  | succ k ihk =>
    intro m y h1 h2
    obtain ⟨m, rfl⟩ : ∃ p, m = p + 1 := ⟨m - 1, by omega⟩
    unfold backR backRL
    split
    · rfl
    · split
      · rename_i v' r' hp'
        have h5 := (partR_less hp').1
        rw [ihk m r' (by omega) (by omega), ihk y.length r' (by omega) (by omega)]
      · rfl
theorem backR_step {x r : List UInt8} {v : V} (hx : x ≠ []) (hp : partR x = some (v, r)) : backR x = (backR r).map (v :: ·) := by
  have h1 := (partR_less hp).1
  have h2 := backRL_fuel x.length x.length r (by omega) (Nat.le_refl _)
  show backRL (x.length + 1) x = _
  unfold backRL
  rw [if_neg hx, hp]
  simp only
  rw [h2]
theorem backR_bad {x : List UInt8} (hx : x ≠ []) (hp : partR x = none) : backR x = none := by
  show backRL (x.length + 1) x = _
  unfold backRL
  rw [if_neg hx, hp]
theorem backR_nil : backR [] = some [] := rfl
theorem backR_key : ∀ (l : List V), (∀ v ∈ l, i64ok v.n = true ∧ v.s.length < 4611686018427387904) → backR (keyT l) = some (l.map bareV)
  | [], _ => rfl
  | v :: l, h => by
    have hv := h v (by simp)
    rw [keyT_cons, backR_step (by have := keyV_ne v; simp [this]) (partR_key v (keyT l) hv.1 hv.2), backR_key l fun u hu => h u (by simp [hu])]
    rfl
theorem backR_some : ∀ (n : Nat) (x : List UInt8) (l : List V), x.length < n → backR x = some l → keyT l = x ∧ l.map bareV = l ∧ VsizeL l ≤ x.length ∧ ∀ v ∈ l, i64ok v.n = true
  | 0, _, _, h, _ => by omega
  | n + 1, x, l, hn, h => by
    by_cases hx : x = []
    · subst hx
      rw [backR_nil] at h
      injection h with h
      subst h
      exact ⟨rfl, rfl, by simp [VsizeL], by simp⟩
    · cases hp : partR x with
      | none => rw [backR_bad hx hp] at h; cases h
      | some p =>
        obtain ⟨v, r⟩ := p
        obtain ⟨h1, h2, h3, h4, h5⟩ := partR_less hp
        rw [backR_step hx hp] at h
        obtain ⟨l', hl, rfl⟩ := Option.map_eq_some_iff.1 h
        obtain ⟨g1, g2, g3, g4⟩ := backR_some n r l' (by omega) hl
        refine ⟨by rw [keyT_cons, g1, h5], by rw [List.map_cons, h4, g2], ?_, fun u hu => ?_⟩
        · simp only [VsizeL, List.map_cons, List.sum_cons] at g3 ⊢; omega
        · rcases List.mem_cons.1 hu with rfl | hu
          · exact h3
          · exact g4 u hu
end Go.Am
