/- Part of the proof: abstract values over the given model of Go (PlA). Conditions: none of its own; see the statement in the seat's Rows text. -/
import Derived.Test.YtnpidlhooilddaaDoorAmT
import Derived.Lib.ItoaLen
set_option linter.unusedSimpArgs false
set_option linter.unusedVariables false
set_option linter.unusedSectionVars false
namespace Go.Am
/-- An order told by three numbers. -/
structure IsCmp {α : Type} (c : α → α → Int) : Prop where
  rng : ∀ x y, c x y = -1 ∨ c x y = 0 ∨ c x y = 1
  anti : ∀ x y, c y x = - c x y
  trans : ∀ x y z, c x y ≤ 0 → c y z ≤ 0 → c x z ≤ 0
namespace IsCmp
variable {α : Type} {c : α → α → Int} (h : IsCmp c)
include h
theorem self (x : α) : c x x = 0 := by have := h.anti x x; omega
theorem ltl {x y z : α} (h1 : c x y < 0) (h2 : c y z ≤ 0) : c x z < 0 := by
  have h3 := h.trans x y z (by omega) h2
  by_cases h0 : c x z = 0
  · have h4 := h.trans y z x h2 (by have := h.anti x z; omega)
    have := h.anti x y
    omega
  · omega
theorem ltr {x y z : α} (h1 : c x y ≤ 0) (h2 : c y z < 0) : c x z < 0 := by
  have h3 := h.trans x y z h1 (by omega)
  by_cases h0 : c x z = 0
  · have h4 := h.trans z x y (by have := h.anti x z; omega) h1
    have := h.anti y z
    omega
  · omega
theorem eq_l {x y z : α} (h1 : c x y = 0) : c x z = c y z := by
  have h2 := h.anti x y
  have a1 := h.trans x y z (by omega)
  have a2 := h.trans y x z (by omega)
  have a3 : c z y ≤ 0 → c z x ≤ 0 := fun h4 => h.trans z y x h4 (by omega)
  have a4 : c z x ≤ 0 → c z y ≤ 0 := fun h4 => h.trans z x y h4 (by omega)
  have b1 := h.anti x z
  have b2 := h.anti y z
  have r1 := h.rng x z
  have r2 := h.rng y z
  omega
theorem eq_r {x y z : α} (h1 : c y z = 0) : c x y = c x z := by
  have := h.eq_l (z := x) h1
  have b1 := h.anti x y
  have b2 := h.anti x z
  omega
end IsCmp
theorem isCmpI : IsCmp cmpI where
  rng x y := by unfold cmpI; split <;> (try split) <;> omega
  anti x y := by unfold cmpI; split <;> (try split) <;> (try split) <;> omega
  trans x y z := by unfold cmpI; split <;> (try split) <;> (try split) <;> (try split) <;> (try split) <;> (try split) <;> omega

theorem bl_irr : ∀ x : List UInt8, Op.bytesLess x x = false
  | [] => rfl
  | a :: x => by simp [Op.bytesLess, bl_irr x]
theorem bl_tri : ∀ x y : List UInt8, Op.bytesLess x y = true ∨ x = y ∨ Op.bytesLess y x = true
  | [], [] => .inr (.inl rfl)
  | [], _ :: _ => .inl rfl
  | _ :: _, [] => .inr (.inr rfl)
  | a :: x, b :: y => by
    simp only [Op.bytesLess, Bool.or_eq_true, Bool.and_eq_true, decide_eq_true_eq, beq_iff_eq, List.cons.injEq]
    have ha : a < b ∨ a = b ∨ b < a := by
      simp only [UInt8.lt_iff_toNat_lt, ← UInt8.toNat_inj]; omega
    rcases ha with ha | rfl | ha
    · exact .inl (.inl ha)
    · rcases bl_tri x y with h | h | h
      · exact .inl (.inr ⟨rfl, h⟩)
      · exact .inr (.inl ⟨rfl, h⟩)
      · exact .inr (.inr (.inr ⟨rfl, h⟩))
    · exact .inr (.inr (.inl ha))
theorem bl_trans : ∀ x y z : List UInt8, Op.bytesLess x y = true → Op.bytesLess y z = true → Op.bytesLess x z = true
  | _, [], _, h, _ => by simp [Op.bytesLess] at h
  | _, _ :: _, [], _, h => by simp [Op.bytesLess] at h
  | [], _ :: _, _ :: _, _, _ => rfl
  | a :: x, b :: y, c :: z, h1, h2 => by
    simp only [Op.bytesLess, Bool.or_eq_true, Bool.and_eq_true, decide_eq_true_eq, beq_iff_eq, UInt8.lt_iff_toNat_lt, ← UInt8.toNat_inj] at h1 h2 ⊢
    rcases h1 with h1 | ⟨h1, h1'⟩ <;> rcases h2 with h2 | ⟨h2, h2'⟩
    · left; omega
    · left; omega
    · left; omega
    · right; exact ⟨by omega, bl_trans x y z h1' h2'⟩
theorem bl_asym {x y : List UInt8} (h : Op.bytesLess x y = true) : Op.bytesLess y x = false := by
  cases h' : Op.bytesLess y x
  · rfl
  · have := bl_trans x y x h h'
    rw [bl_irr] at this; exact this.symm ▸ rfl
theorem cmpS_lt {x y : List UInt8} : cmpS x y = -1 ↔ Op.bytesLess x y = true := by
  unfold cmpS; split <;> (try split) <;> simp_all
theorem cmpS_z {x y : List UInt8} : cmpS x y = 0 ↔ x = y := by
  unfold cmpS
  split
  · rename_i h
    constructor
    · intro h; omega
    · rintro rfl; rw [bl_irr] at h; cases h
  · split <;> simp_all
theorem cmpS_le {x y : List UInt8} : cmpS x y ≤ 0 ↔ Op.bytesLess y x = false := by
  unfold cmpS
  split
  · rename_i h; simp [bl_asym h]
  · rename_i h
    split
    · rename_i h2
      obtain rfl : x = y := by simpa using h2
      simp [bl_irr]
    · rename_i h2
      rcases bl_tri x y with h3 | h3 | h3
      · exact absurd h3 h
      · simp [h3] at h2
      · simp [h3]
theorem isCmpS : IsCmp cmpS where
  rng x y := by unfold cmpS; split <;> (try split) <;> omega
  anti x y := by
    unfold cmpS
    rcases bl_tri x y with h | h | h
    · have : ¬ y = x := by rintro rfl; rw [bl_irr] at h; cases h
      simp [h, bl_asym h, this]
    · subst h; simp [bl_irr]
    · have : ¬ x = y := by rintro rfl; rw [bl_irr] at h; cases h
      simp [h, bl_asym h, this]
  trans x y z h1 h2 := by
    rw [cmpS_le] at *
    cases h : Op.bytesLess z x
    · rfl
    · rcases bl_tri x y with h3 | h3 | h3
      · rw [bl_trans z x y h h3] at h2; cases h2
      · subst h3; rw [h] at h2; cases h2
      · rw [h3] at h1; cases h1
theorem isCmpV : IsCmp cmpV where
  rng x y := by
    unfold cmpV
    split
    · exact isCmpS.rng _ _
    · split
      · simp
      · split
        · simp
        · exact isCmpI.rng _ _
  anti x y := by
    unfold cmpV
    cases x.b <;> cases y.b <;> simp
    · exact isCmpI.anti _ _
    · exact isCmpS.anti _ _
  trans x y z := by
    unfold cmpV
    cases x.b <;> cases y.b <;> cases z.b <;> simp
    · exact isCmpI.trans _ _ _
    · exact isCmpS.trans _ _ _
theorem cmpT_cons (a b : V) (x y : List V) : cmpT (a :: x) (b :: y) = if cmpV a b = 0 then cmpT x y else cmpV a b := rfl
theorem cmpT_rng : ∀ x y, cmpT x y = -1 ∨ cmpT x y = 0 ∨ cmpT x y = 1
  | [], [] => by simp [cmpT]
  | [], _ :: _ => by simp [cmpT]
  | _ :: _, [] => by simp [cmpT]
  | a :: x, b :: y => by rw [cmpT_cons]; split; exact cmpT_rng x y; exact isCmpV.rng a b
theorem cmpT_anti : ∀ x y, cmpT y x = - cmpT x y
  | [], [] => by simp [cmpT]
  | [], _ :: _ => by simp [cmpT]
  | _ :: _, [] => by simp [cmpT]
  | a :: x, b :: y => by
    rw [cmpT_cons, cmpT_cons, isCmpV.anti a b, cmpT_anti x y]
    split <;> split <;> omega
theorem cmpT_trans : ∀ x y z, cmpT x y ≤ 0 → cmpT y z ≤ 0 → cmpT x z ≤ 0
  | [], _, [] => by simp [cmpT]
  | [], _, _ :: _ => by simp [cmpT]
  | _ :: _, [], _ => by simp [cmpT]
  | _ :: _, _ :: _, [] => by simp [cmpT]
  | a :: x, b :: y, c :: z => by
    rw [cmpT_cons, cmpT_cons, cmpT_cons]
    intro h1 h2
    by_cases e1 : cmpV a b = 0
    · rw [if_pos e1] at h1
      rw [isCmpV.eq_l e1]
      by_cases e2 : cmpV b c = 0
      · rw [if_pos e2] at h2 ⊢
        exact cmpT_trans x y z h1 h2
      · rw [if_neg e2] at h2 ⊢
        exact h2
    · rw [if_neg e1] at h1
      have h3 : cmpV a b < 0 := by omega
      have h4 : cmpV b c ≤ 0 := by split at h2 <;> omega
      have := isCmpV.ltl h3 h4
      rw [if_neg (by omega)]
      omega
theorem isCmpT : IsCmp cmpT := ⟨cmpT_rng, cmpT_anti, cmpT_trans⟩

/-! ### keys -/
def isDig (c : UInt8) : Prop := 48 ≤ c.toNat ∧ c.toNat ≤ 57
theorem dec_dig (u : Nat) : ∀ c ∈ Lib.decDigits u, isDig c := by
  induction u using Nat.strongRecOn with
  | _ u ih =>
    intro c hc
    rw [Lib.decDigits] at hc
    split at hc
    · rename_i h
      simp at hc
      subst hc
      simp [isDig]; omega
    · rename_i h
      rw [List.mem_append] at hc
      rcases hc with hc | hc
      · exact ih (u / 10) (by omega) c hc
      · simp at hc
        subst hc
        simp [isDig]; omega
def numOf (l : List UInt8) : Nat := l.foldl (fun a c => a * 10 + (c.toNat - 48)) 0
theorem numOf_dec (u : Nat) : numOf (Lib.decDigits u) = u := by
  induction u using Nat.strongRecOn with
  | _ u ih =>
    rw [Lib.decDigits]
    split
    · rename_i h
      simp [numOf]; omega
    · rename_i h
      have := ih (u / 10) (by omega)
      simp only [numOf, List.foldl_append, List.foldl_cons, List.foldl_nil] at this ⊢
      rw [this]
      simp; omega
theorem dec_inj {u v : Nat} (h : Lib.decDigits u = Lib.decDigits v) : u = v := by rw [← numOf_dec u, h, numOf_dec]
theorem dec_ne (u : Nat) : Lib.decDigits u ≠ [] := by rw [Lib.decDigits]; split <;> simp
theorem itoa_inj {m n : Int} (h : Lib.itoa m = Lib.itoa n) : m = n := by
  have neg : ∀ {u v : Nat}, 45 :: Lib.decDigits u ≠ Lib.decDigits v := fun {u v} e => by
    have := dec_dig v 45 (by rw [← e]; simp)
    simp [isDig] at this
  unfold Lib.itoa at h
  split at h <;> split at h
  · have := dec_inj (List.cons.inj h).2; omega
  · exact absurd h neg
  · exact absurd h.symm neg
  · have := dec_inj h; omega
theorem split_at {l l' r r' : List UInt8} {c : UInt8} (h : l ++ c :: r = l' ++ c :: r') (hl : ∀ x ∈ l, x ≠ c) (hl' : ∀ x ∈ l', x ≠ c) : l = l' ∧ r = r' := by
  induction l generalizing l' with
  | nil =>
    cases l' with
    | nil => simpa using h
    | cons y l' => exact absurd (List.cons.inj h).1.symm (hl' y (by simp))
  | cons x l ih =>
    cases l' with
    | nil => exact absurd (List.cons.inj h).1 (hl x (by simp))
    | cons y l' =>
      obtain ⟨h1, h2⟩ := List.cons.inj h
      obtain ⟨h3, h4⟩ := ih h2 (fun z hz => hl z (by simp [hz])) fun z hz => hl' z (by simp [hz])
      exact ⟨by rw [h1, h3], h4⟩
theorem keyV_inj {v v' : V} {r r' : List UInt8} (h : keyV v ++ r = keyV v' ++ r') : v.b = v'.b ∧ txtV v = txtV v' ∧ r = r' := by
  have e : ∀ (v : V) r, keyV v ++ r = (if v.b then 115 else 110) :: (Lib.decDigits (txtV v).length ++ 58 :: (txtV v ++ r)) := fun v r => by
    have hi : ∀ n : Nat, Lib.itoa (n : Int) = Lib.decDigits n := fun n => by unfold Lib.itoa; rw [if_neg (by omega)]; simp
    unfold keyV
    rw [hi]
    cases v.b <;> simp
  rw [e, e] at h
  obtain ⟨h1, h2⟩ := List.cons.inj h
  have no : ∀ u, ∀ x ∈ Lib.decDigits u, x ≠ 58 := fun u x hx e => by
    have := dec_dig u x hx
    subst e
    simp [isDig] at this
  obtain ⟨h3, h4⟩ := split_at h2 (no _) (no _)
  obtain ⟨h5, h6⟩ := List.append_inj h4 (dec_inj h3)
  refine ⟨?_, h5, h6⟩
  cases hb : v.b <;> cases hb' : v'.b <;> simp [hb, hb'] at h1 ⊢
theorem cmpV_z {v v' : V} : cmpV v v' = 0 ↔ v.b = v'.b ∧ txtV v = txtV v' := by
  unfold cmpV txtV
  cases v.b <;> cases v'.b <;> simp
  · constructor
    · intro h
      have : v.n = v'.n := by unfold cmpI at h; split at h <;> (try split at h) <;> omega
      rw [this]
    · intro h
      rw [itoa_inj h]
      exact isCmpI.self _
  · exact cmpS_z
theorem keyT_cons (v : V) (l : List V) : keyT (v :: l) = keyV v ++ keyT l := rfl
theorem keyT_append (a b : List V) : keyT (a ++ b) = keyT a ++ keyT b := by simp [keyT]
theorem cmpT_key : ∀ a b : List V, cmpT a b = 0 ↔ keyT a = keyT b
  | [], [] => by simp [cmpT]
  | [], v :: l => by
    rw [keyT_cons]
    have := keyV_ne v
    simp [cmpT, keyT, this]
  | v :: l, [] => by
    rw [keyT_cons]
    have := keyV_ne v
    simp [cmpT, keyT, this]
  | a :: x, b :: y => by
    rw [keyT_cons, keyT_cons, cmpT_cons]
    constructor
    · intro h
      by_cases h0 : cmpV a b = 0
      · rw [if_pos h0] at h
        obtain ⟨h1, h2⟩ := cmpV_z.1 h0
        rw [(cmpT_key x y).1 h]
        unfold keyV
        rw [h1, h2]
      · rw [if_neg h0] at h; exact absurd h h0
    · intro h
      obtain ⟨h1, h2, h3⟩ := keyV_inj h
      rw [if_pos (cmpV_z.2 ⟨h1, h2⟩)]
      exact (cmpT_key x y).2 h3
theorem cmpT_pre : ∀ a b c : List V, cmpT (a ++ b) (a ++ c) = cmpT b c
  | [], b, c => rfl
  | v :: a, b, c => by
    show cmpT (v :: (a ++ b)) (v :: (a ++ c)) = _
    rw [cmpT_cons, if_pos (isCmpV.self v), cmpT_pre a b c]
theorem cmpT_ext : ∀ (a b : List V), b ≠ [] → cmpT a (a ++ b) = -1
  | a, b, h => by
    have := cmpT_pre a [] b
    rw [List.append_nil] at this
    rw [this]
    cases b with
    | nil => exact absurd rfl h
    | cons _ _ => rfl
end Go.Am
