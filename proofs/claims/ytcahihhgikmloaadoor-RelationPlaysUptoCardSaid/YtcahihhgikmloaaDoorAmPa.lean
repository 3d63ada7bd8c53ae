/- Part of the proof: abstract values over the given model of Go (PA, PE, PF, PG, PH). Conditions: none of its own; see the statement in the seat's Rows text. -/
import Derived.Test.YtcahihhgikmloaaDoorAmSd
import Derived.Test.YtcahihhgikmloaaDoorAmSa
import Derived.Lib.ItoaLen
set_option linter.unusedSimpArgs false
set_option linter.unusedVariables false
set_option linter.unusedSectionVars false
namespace Go.Am
/-- An order told by three numbers. -/
structure IsCmp {α : Type} (c : α → α → Int) : Prop where
  rng : ∀ x y, c x y = -1 ∨ c x y = 0 ∨ c x y = 1
  anti : ∀ x y, c y x = - c x y
  trans : ∀ x y z, c x y ≤ 0 → c y z ≤ 0 → c x z ≤ 0
namespace IsCmp
variable {α : Type} {c : α → α → Int} (h : IsCmp c)
include h
theorem self (x : α) : c x x = 0 := by have := h.anti x x; omega
theorem ltl {x y z : α} (h1 : c x y < 0) (h2 : c y z ≤ 0) : c x z < 0 := by
  have h3 := h.trans x y z (by omega) h2
  by_cases h0 : c x z = 0
  · have h4 := h.trans y z x h2 (by have := h.anti x z; omega)
    have := h.anti x y
    omega
  · omega
theorem ltr {x y z : α} (h1 : c x y ≤ 0) (h2 : c y z < 0) : c x z < 0 := by
  have h3 := h.trans x y z h1 (by omega)
  by_cases h0 : c x z = 0
  · have h4 := h.trans z x y (by have := h.anti x z; omega) h1
    have := h.anti y z
    omega
  · omega
theorem eq_l {x y z : α} (h1 : c x y = 0) : c x z = c y z := by
  have h2 := h.anti x y
  have a1 := h.trans x y z (by omega)
  have a2 := h.trans y x z (by omega)
  have a3 : c z y ≤ 0 → c z x ≤ 0 := fun h4 => h.trans z y x h4 (by omega)
  have a4 : c z x ≤ 0 → c z y ≤ 0 := fun h4 => h.trans z x y h4 (by omega)
  have b1 := h.anti x z
  have b2 := h.anti y z
  have r1 := h.rng x z
  have r2 := h.rng y z
  omega
theorem eq_r {x y z : α} (h1 : c y z = 0) : c x y = c x z := by
  have := h.eq_l (z := x) h1
  have b1 := h.anti x y
  have b2 := h.anti x z
  omega
end IsCmp
theorem isCmpI : IsCmp cmpI where
  rng x y := by unfold cmpI; split <;> (try split) <;> omega
  anti x y := by unfold cmpI; split <;> (try split) <;> (try split) <;> omega
  trans x y z := by unfold cmpI; split <;> (try split) <;> (try split) <;> (try split) <;> (try split) <;> (try split) <;> omega

theorem bl_irr : ∀ x : List UInt8, Op.bytesLess x x = false
  | [] => rfl
  | a :: x => by simp [Op.bytesLess, bl_irr x]
theorem bl_tri : ∀ x y : List UInt8, Op.bytesLess x y = true ∨ x = y ∨ Op.bytesLess y x = true
  | [], [] => .inr (.inl rfl)
  | [], _ :: _ => .inl rfl
  | _ :: _, [] => .inr (.inr rfl)
  | a :: x, b :: y => by
    simp only [Op.bytesLess, Bool.or_eq_true, Bool.and_eq_true, decide_eq_true_eq, beq_iff_eq, List.cons.injEq]
    have ha : a < b ∨ a = b ∨ b < a := by
      simp only [UInt8.lt_iff_toNat_lt, ← UInt8.toNat_inj]; omega
    rcases ha with ha | rfl | ha
    · exact .inl (.inl ha)
    · rcases bl_tri x y with h | h | h
      · exact .inl (.inr ⟨rfl, h⟩)
      · exact .inr (.inl ⟨rfl, h⟩)
      · exact .inr (.inr (.inr ⟨rfl, h⟩))
    · exact .inr (.inr (.inl ha))
theorem bl_trans : ∀ x y z : List UInt8, Op.bytesLess x y = true → Op.bytesLess y z = true → Op.bytesLess x z = true
  | _, [], _, h, _ => by simp [Op.bytesLess] at h
  | _, _ :: _, [], _, h => by simp [Op.bytesLess] at h
  | [], _ :: _, _ :: _, _, _ => rfl
  | a :: x, b :: y, c :: z, h1, h2 => by
    simp only [Op.bytesLess, Bool.or_eq_true, Bool.and_eq_true, decide_eq_true_eq, beq_iff_eq, UInt8.lt_iff_toNat_lt, ← UInt8.toNat_inj] at h1 h2 ⊢
    rcases h1 with h1 | ⟨h1, h1'⟩ <;> rcases h2 with h2 | ⟨h2, h2'⟩
    · left; omega
    · left; omega
    · left; omega
    · right; exact ⟨by omega, bl_trans x y z h1' h2'⟩
theorem bl_asym {x y : List UInt8} (h : Op.bytesLess x y = true) : Op.bytesLess y x = false := by
  cases h' : Op.bytesLess y x
  · rfl
  · have := bl_trans x y x h h'
    rw [bl_irr] at this; exact this.symm ▸ rfl
theorem cmpS_lt {x y : List UInt8} : cmpS x y = -1 ↔ Op.bytesLess x y = true := by
  unfold cmpS; split <;> (try split) <;> simp_all
theorem cmpS_z {x y : List UInt8} : cmpS x y = 0 ↔ x = y := by
  unfold cmpS
  split
  · rename_i h
    constructor
    · intro h; omega
    · rintro rfl; rw [bl_irr] at h; cases h
  · split <;> simp_all
theorem cmpS_le {x y : List UInt8} : cmpS x y ≤ 0 ↔ Op.bytesLess y x = false := by
  unfold cmpS
  split
  · rename_i h; simp [bl_asym h]
  · rename_i h
    split
    · rename_i h2
      obtain rfl : x = y := by simpa using h2
      simp [bl_irr]
    · rename_i h2
      rcases bl_tri x y with h3 | h3 | h3
      · exact absurd h3 h
      · simp [h3] at h2
      · simp [h3]
theorem isCmpS : IsCmp cmpS where
  rng x y := by unfold cmpS; split <;> (try split) <;> omega
  anti x y := by
    unfold cmpS
    rcases bl_tri x y with h | h | h
    · have : ¬ y = x := by rintro rfl; rw [bl_irr] at h; cases h
      simp [h, bl_asym h, this]
    · subst h; simp [bl_irr]
    · have : ¬ x = y := by rintro rfl; rw [bl_irr] at h; cases h
      simp [h, bl_asym h, this]
  trans x y z h1 h2 := by
    rw [cmpS_le] at *
    cases h : Op.bytesLess z x
    · rfl
    · rcases bl_tri x y with h3 | h3 | h3
      · rw [bl_trans z x y h h3] at h2; cases h2
      · subst h3; rw [h] at h2; cases h2
      · rw [h3] at h1; cases h1
theorem isCmpV : IsCmp cmpV where
  rng x y := by
    unfold cmpV
    split
    · exact isCmpS.rng _ _
    · split
      · simp
      · split
        · simp
        · exact isCmpI.rng _ _
  anti x y := by
    unfold cmpV
    cases x.b <;> cases y.b <;> simp
    · exact isCmpI.anti _ _
    · exact isCmpS.anti _ _
  trans x y z := by
    unfold cmpV
    cases x.b <;> cases y.b <;> cases z.b <;> simp
    · exact isCmpI.trans _ _ _
    · exact isCmpS.trans _ _ _
theorem cmpT_cons (a b : V) (x y : List V) : cmpT (a :: x) (b :: y) = if cmpV a b = 0 then cmpT x y else cmpV a b := rfl
theorem cmpT_rng : ∀ x y, cmpT x y = -1 ∨ cmpT x y = 0 ∨ cmpT x y = 1
  | [], [] => by simp [cmpT]
  | [], _ :: _ => by simp [cmpT]
  | _ :: _, [] => by simp [cmpT]
  | a :: x, b :: y => by rw [cmpT_cons]; split; exact cmpT_rng x y; exact isCmpV.rng a b
theorem cmpT_anti : ∀ x y, cmpT y x = - cmpT x y
  | [], [] => by simp [cmpT]
  | [], _ :: _ => by simp [cmpT]
  | _ :: _, [] => by simp [cmpT]
  | a :: x, b :: y => by
    rw [cmpT_cons, cmpT_cons, isCmpV.anti a b, cmpT_anti x y]
    split <;> split <;> omega
theorem cmpT_trans : ∀ x y z, cmpT x y ≤ 0 → cmpT y z ≤ 0 → cmpT x z ≤ 0
  | [], _, [] => by simp [cmpT]
  | [], _, _ :: _ => by simp [cmpT]
  | _ :: _, [], _ => by simp [cmpT]
  | _ :: _, _ :: _, [] => by simp [cmpT]
  | a :: x, b :: y, c :: z => by
    rw [cmpT_cons, cmpT_cons, cmpT_cons]
    intro h1 h2
    by_cases e1 : cmpV a b = 0
    · rw [if_pos e1] at h1
      rw [isCmpV.eq_l e1]
      by_cases e2 : cmpV b c = 0
      · rw [if_pos e2] at h2 ⊢
        exact cmpT_trans x y z h1 h2
      · rw [if_neg e2] at h2 ⊢
        exact h2
    · rw [if_neg e1] at h1
      have h3 : cmpV a b < 0 := by omega
      have h4 : cmpV b c ≤ 0 := by split at h2 <;> omega
      have := isCmpV.ltl h3 h4
      rw [if_neg (by omega)]
      omega
theorem isCmpT : IsCmp cmpT := ⟨cmpT_rng, cmpT_anti, cmpT_trans⟩

/-! ### keys -/
def isDig (c : UInt8) : Prop := 48 ≤ c.toNat ∧ c.toNat ≤ 57
theorem dec_dig (u : Nat) : ∀ c ∈ Lib.decDigits u, isDig c := by
  induction u using Nat.strongRecOn with
  | _ u ih =>
    intro c hc
    rw [Lib.decDigits] at hc
    split at hc
    · rename_i h
      simp at hc
      subst hc
      simp [isDig]; omega
    · rename_i h
      rw [List.mem_append] at hc
      rcases hc with hc | hc
      · exact ih (u / 10) (by omega) c hc
      · simp at hc
        subst hc
        simp [isDig]; omega
def numOf (l : List UInt8) : Nat := l.foldl (fun a c => a * 10 + (c.toNat - 48)) 0
theorem numOf_dec (u : Nat) : numOf (Lib.decDigits u) = u := by
  induction u using Nat.strongRecOn with
  | _ u ih =>
    rw [Lib.decDigits]
    split
    · rename_i h
      simp [numOf]; omega
    · rename_i h
      have := ih (u / 10) (by omega)
      simp only [numOf, List.foldl_append, List.foldl_cons, List.foldl_nil] at this ⊢
      rw [this]
      simp; omega
theorem dec_inj {u v : Nat} (h : Lib.decDigits u = Lib.decDigits v) : u = v := by rw [← numOf_dec u, h, numOf_dec]
theorem dec_ne (u : Nat) : Lib.decDigits u ≠ [] := by rw [Lib.decDigits]; split <;> simp
theorem itoa_inj {m n : Int} (h : Lib.itoa m = Lib.itoa n) : m = n := by
  have neg : ∀ {u v : Nat}, 45 :: Lib.decDigits u ≠ Lib.decDigits v := fun {u v} e => by
    have := dec_dig v 45 (by rw [← e]; simp)
    simp [isDig] at this
  unfold Lib.itoa at h
  split at h <;> split at h
  · have := dec_inj (List.cons.inj h).2; omega
  · exact absurd h neg
  · exact absurd h.symm neg
  · have := dec_inj h; omega
theorem split_at {l l' r r' : List UInt8} {c : UInt8} (h : l ++ c :: r = l' ++ c :: r') (hl : ∀ x ∈ l, x ≠ c) (hl' : ∀ x ∈ l', x ≠ c) : l = l' ∧ r = r' := by
  induction l generalizing l' with
  | nil =>
    cases l' with
    | nil => simpa using h
    | cons y l' => exact absurd (List.cons.inj h).1.symm (hl' y (by simp))
  | cons x l ih =>
    cases l' with
    | nil => exact absurd (List.cons.inj h).1 (hl x (by simp))
    | cons y l' =>
      obtain ⟨h1, h2⟩ := List.cons.inj h
      obtain ⟨h3, h4⟩ := ih h2 (fun z hz => hl z (by simp [hz])) fun z hz => hl' z (by simp [hz])
      exact ⟨by rw [h1, h3], h4⟩
def txtV (v : V) : List UInt8 := if v.b then v.s else Lib.itoa v.n
def keyV (v : V) : List UInt8 := (if v.b then [115] else [110]) ++ Lib.itoa ((txtV v).length : Int) ++ [58] ++ txtV v
def keyT (l : List V) : List UInt8 := l.flatMap keyV
theorem keyV_ne (v : V) : keyV v ≠ [] := by unfold keyV; split <;> simp
theorem keyV_inj {v v' : V} {r r' : List UInt8} (h : keyV v ++ r = keyV v' ++ r') : v.b = v'.b ∧ txtV v = txtV v' ∧ r = r' := by
  have e : ∀ (v : V) r, keyV v ++ r = (if v.b then 115 else 110) :: (Lib.decDigits (txtV v).length ++ 58 :: (txtV v ++ r)) := fun v r => by
    have hi : ∀ n : Nat, Lib.itoa (n : Int) = Lib.decDigits n := fun n => by unfold Lib.itoa; rw [if_neg (by omega)]; simp
    unfold keyV
    rw [hi]
    cases v.b <;> simp
  rw [e, e] at h
  obtain ⟨h1, h2⟩ := List.cons.inj h
  have no : ∀ u, ∀ x ∈ Lib.decDigits u, x ≠ 58 := fun u x hx e => by
    have := dec_dig u x hx
    subst e
    simp [isDig] at this
  obtain ⟨h3, h4⟩ := split_at h2 (no _) (no _)
  obtain ⟨h5, h6⟩ := List.append_inj h4 (dec_inj h3)
  refine ⟨?_, h5, h6⟩
  cases hb : v.b <;> cases hb' : v'.b <;> simp [hb, hb'] at h1 ⊢
theorem cmpV_z {v v' : V} : cmpV v v' = 0 ↔ v.b = v'.b ∧ txtV v = txtV v' := by
  unfold cmpV txtV
  cases v.b <;> cases v'.b <;> simp
  · constructor
    · intro h
      have : v.n = v'.n := by unfold cmpI at h; split at h <;> (try split at h) <;> omega
      rw [this]
    · intro h
      rw [itoa_inj h]
      exact isCmpI.self _
  · exact cmpS_z
theorem keyT_cons (v : V) (l : List V) : keyT (v :: l) = keyV v ++ keyT l := rfl
theorem keyT_append (a b : List V) : keyT (a ++ b) = keyT a ++ keyT b := by simp [keyT]
theorem cmpT_key : ∀ a b : List V, cmpT a b = 0 ↔ keyT a = keyT b
  | [], [] => by simp [cmpT]
  | [], v :: l => by
    rw [keyT_cons]
    have := keyV_ne v
    simp [cmpT, keyT, this]
  | v :: l, [] => by
    rw [keyT_cons]
    have := keyV_ne v
    simp [cmpT, keyT, this]
  | a :: x, b :: y => by
    rw [keyT_cons, keyT_cons, cmpT_cons]
    constructor
    · intro h
      by_cases h0 : cmpV a b = 0
      · rw [if_pos h0] at h
        obtain ⟨h1, h2⟩ := cmpV_z.1 h0
        rw [(cmpT_key x y).1 h]
        unfold keyV
        rw [h1, h2]
      · rw [if_neg h0] at h; exact absurd h h0
    · intro h
      obtain ⟨h1, h2, h3⟩ := keyV_inj h
      rw [if_pos (cmpV_z.2 ⟨h1, h2⟩)]
      exact (cmpT_key x y).2 h3
theorem cmpT_pre : ∀ a b c : List V, cmpT (a ++ b) (a ++ c) = cmpT b c
  | [], b, c => rfl
  | v :: a, b, c => by
    show cmpT (v :: (a ++ b)) (v :: (a ++ c)) = _
    rw [cmpT_cons, if_pos (isCmpV.self v), cmpT_pre a b c]
theorem cmpT_ext : ∀ (a b : List V), b ≠ [] → cmpT a (a ++ b) = -1
  | a, b, h => by
    have := cmpT_pre a [] b
    rw [List.append_nil] at this
    rw [this]
    cases b with
    | nil => exact absurd rfl h
    | cons _ _ => rfl
end Go.Am
namespace Go.Am
abbrev Row := List V
theorem cself (x : Row) : cmpT x x = 0 := isCmpT.self x
def Srt (l : Rows0) : Prop := l.Pairwise fun x y => cmpT x y ≤ 0
def cl (k : Row) (l : Rows0) : Rows0 := l.filter fun t => cmpT t k == 0
def Sim (X Y : Rows0) : Prop := ∀ k, cl k X = cl k Y
theorem cl_append (k : Row) (X Y : Rows0) : cl k (X ++ Y) = cl k X ++ cl k Y := by simp [cl]
theorem cl_cons (k x : Row) (X : Rows0) : cl k (x :: X) = if cmpT x k = 0 then x :: cl k X else cl k X := by
  unfold cl
  rw [List.filter_cons]
  by_cases h : cmpT x k = 0 <;> simp [h]
theorem cl_none {k : Row} {X : Rows0} (h : ∀ x ∈ X, cmpT x k ≠ 0) : cl k X = [] := by
  unfold cl
  rw [List.filter_eq_nil_iff]
  intro x hx
  have := h x hx
  simpa using this
theorem cl_mem {k x : Row} {X : Rows0} : x ∈ cl k X ↔ x ∈ X ∧ cmpT x k = 0 := by simp [cl]
theorem Sim.refl (X : Rows0) : Sim X X := fun _ => rfl
theorem Sim.trans {X Y Z : Rows0} (h : Sim X Y) (k : Sim Y Z) : Sim X Z := fun q => (h q).trans (k q)
theorem Sim.symm {X Y : Rows0} (h : Sim X Y) : Sim Y X := fun q => (h q).symm
theorem Sim.app {X X' Y Y' : Rows0} (h : Sim X X') (k : Sim Y Y') : Sim (X ++ Y) (X' ++ Y') := fun q => by rw [cl_append, cl_append, h q, k q]
theorem Sim.mem {X Y : Rows0} (h : Sim X Y) {x : Row} : x ∈ X ↔ x ∈ Y := by
  have : x ∈ cl x X ↔ x ∈ cl x Y := by rw [h x]
  rw [cl_mem, cl_mem] at this
  simpa [cself x] using this
theorem sim_swap {X Y : Rows0} (h : ∀ x ∈ X, ∀ y ∈ Y, cmpT y x < 0) : Sim (X ++ Y) (Y ++ X) := fun k => by
  rw [cl_append, cl_append]
  by_cases hx : ∃ x ∈ X, cmpT x k = 0
  · obtain ⟨x, hx, h0⟩ := hx
    have : cl k Y = [] := cl_none fun y hy e => by
      have h1 := h x hx y hy
      have := isCmpT.eq_r (x := y) h0
      omega
    rw [this]; simp
  · have : cl k X = [] := cl_none fun x hx' e => hx ⟨x, hx', e⟩
    rw [this]; simp
theorem le_of_not {x y : Row} (h : ¬ cmpT y x < 0) : cmpT x y ≤ 0 := by have := cmpT_anti x y; omega
theorem le_of_lt' {x y : Row} (h : cmpT x y < 0) : cmpT x y ≤ 0 := by omega

/-! ### what swaps do -/
theorem get_at (A B : Rows0) (x : Row) : (A ++ x :: B)[A.length]? = some x := by simp
theorem gD_r (A B : Rows0) (i : Nat) : gD (A ++ B) (A.length + i) = gD B i := by
  unfold gD
  rw [List.getElem?_append_right (by omega)]
  congr 2; omega
theorem gD_l (A B : Rows0) {i : Nat} (h : i < A.length) : gD (A ++ B) i = gD A i := by
  unfold gD
  rw [List.getElem?_append_left h]
theorem gD_0 (B : Rows0) (x : Row) : gD (x :: B) 0 = x := rfl
theorem swp_app (L M R : Rows0) (x y : Row) : swp (L ++ x :: M ++ y :: R) L.length (L.length + 1 + M.length) = L ++ y :: M ++ x :: R := by
  unfold swp
  have e1 : (L ++ x :: M ++ y :: R)[L.length]? = some x := by simp
  have e2 : (L ++ x :: M ++ y :: R)[L.length + 1 + M.length]? = some y := by
    have : L.length + 1 + M.length = (L ++ x :: M).length := by simp; omega
    rw [this, get_at]
  rw [e1, e2]
  simp only
  have : L.length + 1 + M.length = (L ++ y :: M).length := by simp; omega
  have e3 : (L ++ x :: M ++ y :: R).set L.length y = L ++ y :: M ++ y :: R := by simp
  rw [e3, this]
  simp
theorem swp_adj (L R : Rows0) (x y : Row) : swp (L ++ x :: y :: R) (L.length + 1) L.length = L ++ y :: x :: R := by
  unfold swp
  have e1 : (L ++ x :: y :: R)[L.length]? = some x := by simp
  have e2 : (L ++ x :: y :: R)[L.length + 1]? = some y := by simp
  rw [e1, e2]
  simp
theorem swp_adj' (L R : Rows0) (x y : Row) : swp (L ++ x :: y :: R) L.length (L.length + 1) = L ++ y :: x :: R := by
  have := swp_app L [] R x y
  simpa using this
theorem swapR_app : ∀ (X Y L M R : Rows0), X.length = Y.length → swapR X.length (L ++ X ++ M ++ Y ++ R) L.length (L.length + X.length + M.length) = L ++ Y ++ M ++ X ++ R
  | [], [], L, M, R, _ => by simp [swapR]
  | [], _ :: _, _, _, _, h => by simp at h
  | _ :: _, [], _, _, _, h => by simp at h
  | x :: X, y :: Y, L, M, R, h => by
    have h' : X.length = Y.length := by simpa using h
    simp only [List.length_cons, swapR]
    have e := swp_app L (X ++ M) (Y ++ R) x y
    have i1 : L ++ x :: X ++ M ++ y :: Y ++ R = L ++ x :: (X ++ M) ++ y :: (Y ++ R) := by simp
    have i2 : L.length + (X.length + 1) + M.length = L.length + 1 + (X ++ M).length := by simp; omega
    rw [i1, i2, e]
    have ih := swapR_app X Y (L ++ [y]) (M ++ [x]) R h'
    have i3 : L ++ y :: (X ++ M) ++ x :: (Y ++ R) = L ++ [y] ++ X ++ (M ++ [x]) ++ Y ++ R := by simp
    have i4 : L.length + 1 = (L ++ [y]).length := by simp
    have i5 : L.length + 1 + (X ++ M).length + 1 = (L ++ [y]).length + X.length + (M ++ [x]).length := by simp; omega
    rw [i3, i5, i4, ih]
    simp
theorem rot_app : ∀ (n : Nat) (X Y L R : Rows0), X ≠ [] → Y ≠ [] → X.length + Y.length ≤ n → rotF (L.length + X.length) n X.length Y.length (L ++ X ++ Y ++ R) = L ++ Y ++ X ++ R
  | 0, X, Y, L, R, hX, hY, h => by
    have := List.length_pos_iff.2 hX
    omega
  | n + 1, X, Y, L, R, hX, hY, h => by
    have pX := List.length_pos_iff.2 hX
    have pY := List.length_pos_iff.2 hY
    unfold rotF
    by_cases e : X.length = Y.length
    · rw [if_pos e]
      have := swapR_app X Y L [] R e
      simp only [List.append_nil, List.length_nil, Nat.add_zero] at this
      rw [Nat.add_sub_cancel, this]
    · rw [if_neg e]
      by_cases hlt : Y.length < X.length
      · rw [if_pos hlt]
        have hX1 : (X.take Y.length).length = Y.length := by simp; omega
        have hX2 : (X.drop Y.length).length = X.length - Y.length := by simp
        have hne : X.drop Y.length ≠ [] := List.length_pos_iff.1 (by omega)
        have key : X = X.take Y.length ++ X.drop Y.length := (List.take_append_drop _ _).symm
        generalize X.take Y.length = X1 at *
        generalize X.drop Y.length = X2 at *
        have e1 := swapR_app X1 Y L X2 R hX1
        have i1 : L ++ X ++ Y ++ R = L ++ X1 ++ X2 ++ Y ++ R := by rw [key]; simp
        have i2 : L.length + X.length - X.length = L.length := by omega
        have i3 : L.length + X.length = L.length + X1.length + X2.length := by omega
        rw [i1, i2]
        conv => lhs; arg 5; rw [i3, ← hX1, e1]
        have ih := rot_app n X2 X1 (L ++ Y) R hne (by intro h; rw [h] at hX1; simp at hX1; omega) (by omega)
        have i4 : L.length + X.length = (L ++ Y).length + X2.length := by simp; omega
        rw [i4, ← hX2, ← hX1, ih, key]
        simp
      · rw [if_neg hlt]
        have hY1 : (Y.take (Y.length - X.length)).length = Y.length - X.length := by simp
        have hY2 : (Y.drop (Y.length - X.length)).length = X.length := by simp; omega
        have hne : Y.take (Y.length - X.length) ≠ [] := List.length_pos_iff.1 (by omega)
        have key : Y = Y.take (Y.length - X.length) ++ Y.drop (Y.length - X.length) := (List.take_append_drop _ _).symm
        generalize Y.take (Y.length - X.length) = Y1 at *
        generalize Y.drop (Y.length - X.length) = Y2 at *
        have e1 := swapR_app X Y2 L Y1 R hY2.symm
        have i1 : L ++ X ++ Y ++ R = L ++ X ++ Y1 ++ Y2 ++ R := by rw [key]; simp
        have i2 : L.length + X.length - X.length = L.length := by omega
        have i3 : L.length + X.length + Y.length - X.length = L.length + X.length + Y1.length := by omega
        rw [i1, i2, i3, e1]
        have ih := rot_app n Y2 Y1 L (X ++ R) (by intro h; rw [h] at hY2; simp at hY2; omega) hne (by omega)
        have i4 : L.length + X.length = L.length + Y2.length := by omega
        have i5 : L ++ Y2 ++ Y1 ++ X ++ R = L ++ Y2 ++ Y1 ++ (X ++ R) := by simp
        rw [i4, i5, ← hY1, ← hY2, ih, key]
        simp
theorem movU_app : ∀ (Z L R : Rows0) (x : Row), movU Z.length L.length (L ++ x :: Z ++ R) = L ++ Z ++ x :: R
  | [], L, R, x => by simp [movU]
  | z :: Z, L, R, x => by
    simp only [List.length_cons, movU]
    have e := swp_adj' L (Z ++ R) x z
    have i1 : L ++ x :: z :: Z ++ R = L ++ x :: z :: (Z ++ R) := by simp
    rw [i1, e]
    have ih := movU_app Z (L ++ [z]) R x
    have i2 : L.length + 1 = (L ++ [z]).length := by simp
    have i3 : L ++ z :: x :: (Z ++ R) = L ++ [z] ++ x :: Z ++ R := by simp
    rw [i2, i3, ih]
    simp
theorem movD_app : ∀ (n : Nat) (Z L R : Rows0) (x : Row), Z.length = n → movD L.length (L.length + n) (L ++ Z ++ x :: R) = L ++ x :: Z ++ R
  | 0, Z, L, R, x, h => by
    have : Z = [] := List.eq_nil_of_length_eq_zero h
    subst this
    cases hL : L.length with
    | zero => simp [movD]
    | succ q =>
      simp only [Nat.add_zero, movD]
      rw [if_neg (by omega)]
      simp
  | n + 1, Z, L, R, x, h => by
    obtain ⟨Z', z, rfl⟩ : ∃ Z' z, Z = Z' ++ [z] := by
      rcases List.eq_nil_or_concat Z with rfl | ⟨Z', z, e⟩
      · simp at h
      · exact ⟨Z', z, by simpa using e⟩
    have hZ : Z'.length = n := by simpa using h
    rw [← Nat.add_assoc, movD, if_pos (by omega)]
    have e := swp_adj (L ++ Z') R z x
    have i1 : L ++ (Z' ++ [z]) ++ x :: R = L ++ Z' ++ z :: x :: R := by simp
    have i2 : L.length + n = (L ++ Z').length := by simp [hZ]
    rw [i1, i2, e]
    have ih := movD_app n Z' L (z :: R) x hZ
    rw [← i2, ih]
    simp
end Go.Am
namespace Go.Am
theorem gD_get {X : Rows0} {i : Nat} (h : i < X.length) : gD X i = X[i] := gD_of h
theorem srt_get {X : Rows0} (h : Srt X) {i j : Nat} (hij : i ≤ j) (hj : j < X.length) : cmpT (gD X i) (gD X j) ≤ 0 := by
  rw [gD_get (by omega), gD_get hj]
  by_cases e : i = j
  · subst e; rw [cself]; omega
  · exact (List.pairwise_iff_getElem.1 h) i j (by omega) hj (by omega)
theorem mem_take_get {X : Rows0} {n : Nat} {y : Row} (h : y ∈ X.take n) : ∃ i, i < n ∧ i < X.length ∧ gD X i = y := by
  rw [List.mem_take_iff_getElem] at h
  obtain ⟨i, hi, rfl⟩ := h
  exact ⟨i, by omega, by omega, gD_get (by omega)⟩
theorem mem_drop_get {X : Rows0} {n : Nat} {y : Row} (h : y ∈ X.drop n) : ∃ i, n ≤ i ∧ i < X.length ∧ gD X i = y := by
  rw [List.mem_drop_iff_getElem] at h
  obtain ⟨i, hi, rfl⟩ := h
  exact ⟨n + i, by omega, by omega, gD_get (by omega)⟩
theorem Srt.take {X : Rows0} (h : Srt X) (n : Nat) : Srt (X.take n) := List.Pairwise.sublist (List.take_sublist _ _) h
theorem Srt.drop {X : Rows0} (h : Srt X) (n : Nat) : Srt (X.drop n) := List.Pairwise.sublist (List.drop_sublist _ _) h
theorem srt_app {X Y : Rows0} (h : Srt X) (k : Srt Y) (hxy : ∀ x ∈ X, ∀ y ∈ Y, cmpT x y ≤ 0) : Srt (X ++ Y) := List.pairwise_append.2 ⟨h, k, hxy⟩
theorem srt_parts {X Y : Rows0} (h : Srt (X ++ Y)) : Srt X ∧ Srt Y ∧ ∀ x ∈ X, ∀ y ∈ Y, cmpT x y ≤ 0 := List.pairwise_append.1 h
theorem srt_one (x : Row) : Srt [x] := List.pairwise_singleton _ _

/-- Of a row put into a row that rises. -/
theorem srt_put {Z1 Z2 : Rows0} {x : Row} (h : Srt (Z1 ++ Z2)) (h2 : ∀ z ∈ Z2, cmpT x z ≤ 0) (h1 : ∀ z ∈ Z1, cmpT z x ≤ 0) : Srt (Z1 ++ x :: Z2) := by
  obtain ⟨a, b, d⟩ := srt_parts h
  refine srt_app a (List.pairwise_cons.2 ⟨h2, b⟩) fun z hz y hy => ?_
  rcases List.mem_cons.1 hy with rfl | hy
  · exact h1 z hz
  · exact d z hz y hy
theorem insJ_app : ∀ (n : Nat) (Z L R : Rows0) (x : Row), Z.length = n →
    ∃ Z1 Z2, Z = Z1 ++ Z2 ∧ insJ L.length (L.length + n) (L ++ Z ++ x :: R) = L ++ Z1 ++ x :: Z2 ++ R ∧ (∀ z ∈ Z2, cmpT x z < 0) ∧ (Z1 = [] ∨ ∃ Z1' z, Z1 = Z1' ++ [z] ∧ ¬ cmpT x z < 0)
  | 0, Z, L, R, x, h => by
    have : Z = [] := List.eq_nil_of_length_eq_zero h
    subst this
    refine ⟨[], [], rfl, ?_, by simp, .inl rfl⟩
    cases hL : L.length with
    | zero => simp [insJ]
    | succ q =>
      simp only [Nat.add_zero, insJ]
      rw [if_neg (fun h => by omega)]
      simp
  | n + 1, Z, L, R, x, h => by
    obtain ⟨Z', z, rfl⟩ : ∃ Z' z, Z = Z' ++ [z] := by
      rcases List.eq_nil_or_concat Z with rfl | ⟨Z', z, e⟩
      · simp at h
      · exact ⟨Z', z, by simpa using e⟩
    have hZ : Z'.length = n := by simpa using h
    rw [← Nat.add_assoc, insJ]
    have i1 : L ++ (Z' ++ [z]) ++ x :: R = L ++ Z' ++ z :: x :: R := by simp
    have i2 : L.length + n = (L ++ Z').length := by simp [hZ]
    have g1 : gD (L ++ (Z' ++ [z]) ++ x :: R) (L.length + n + 1) = x := by
      have := gD_r (L ++ Z') (z :: x :: R) 1
      rw [i1, i2, this]; rfl
    have g2 : gD (L ++ (Z' ++ [z]) ++ x :: R) (L.length + n) = z := by
      have := gD_r (L ++ Z') (z :: x :: R) 0
      rw [i1, i2]
      rw [Nat.add_zero] at this
      rw [this]; rfl
    rw [g1, g2]
    by_cases hc : cmpT x z < 0
    · rw [if_pos ⟨by omega, hc⟩, i1, i2, swp_adj, ← i2]
      obtain ⟨Z1, Z2, e1, e2, e3, e4⟩ := insJ_app n Z' L (z :: R) x hZ
      refine ⟨Z1, Z2 ++ [z], by rw [e1]; simp, ?_, fun y hy => ?_, e4⟩
      · rw [e2]; simp
      · rcases List.mem_append.1 hy with hy | hy
        · exact e3 y hy
        · simp at hy; subst hy; exact hc
    · rw [if_neg (fun h => hc h.2)]
      refine ⟨Z' ++ [z], [], by simp, by simp, by simp, .inr ⟨Z', z, rfl, hc⟩⟩
theorem insJ_spec (Z L R : Rows0) (x : Row) (hZ : Srt Z) :
    ∃ Z', insJ L.length (L.length + Z.length) (L ++ Z ++ x :: R) = L ++ Z' ++ R ∧ Srt Z' ∧ Sim Z' (Z ++ [x]) ∧ Z'.length = Z.length + 1 := by
  obtain ⟨Z1, Z2, e1, e2, e3, e4⟩ := insJ_app Z.length Z L R x rfl
  refine ⟨Z1 ++ x :: Z2, by rw [e2]; simp, ?_, ?_, by rw [e1]; simp; omega⟩
  · rw [e1] at hZ
    refine srt_put hZ (fun z hz => le_of_lt' (e3 z hz)) fun z hz => ?_
    rcases e4 with rfl | ⟨Z1', y, rfl, hy⟩
    · cases hz
    · have hy := le_of_not hy
      rcases List.mem_append.1 hz with hz | hz
      · have := (srt_parts (srt_parts hZ).1).2.2 z hz y (by simp)
        exact cmpT_trans _ _ _ this hy
      · simp at hz; subst hz; exact hy
  · rw [e1, List.append_assoc]
    refine (Sim.refl Z1).app ?_
    have := sim_swap (X := Z2) (Y := [x]) fun z hz y hy => by
      simp at hy; subst hy; exact e3 z hz
    exact this.symm
theorem insA_spec : ∀ (Y Z L R : Rows0), Srt Z →
    ∃ Z', insA L.length Y.length (L.length + Z.length) (L ++ Z ++ Y ++ R) = L ++ Z' ++ R ∧ Srt Z' ∧ Sim Z' (Z ++ Y) ∧ Z'.length = Z.length + Y.length
  | [], Z, L, R, h => ⟨Z, by simp [insA], h, by rw [List.append_nil]; exact Sim.refl _, rfl⟩
  | y :: Y, Z, L, R, h => by
    obtain ⟨Z1, e1, e2, e3, e4⟩ := insJ_spec Z L (Y ++ R) y h
    obtain ⟨Z2, k1, k2, k3, k4⟩ := insA_spec Y Z1 L R e2
    refine ⟨Z2, ?_, k2, ?_, by simp; omega⟩
    · simp only [List.length_cons, insA]
      have i1 : L ++ Z ++ y :: Y ++ R = L ++ Z ++ y :: (Y ++ R) := by simp
      rw [i1, e1]
      have i2 : L ++ Z1 ++ (Y ++ R) = L ++ Z1 ++ Y ++ R := by simp
      rw [i2, Nat.add_assoc, ← e4, k1]
    · refine k3.trans ?_
      have := e3.app (Sim.refl Y)
      rw [List.append_assoc] at this
      simpa using this
theorem insertion_spec (X L R : Rows0) : ∃ Z, insertion L.length (L.length + X.length) (L ++ X ++ R) = L ++ Z ++ R ∧ Srt Z ∧ Sim Z X ∧ Z.length = X.length := by
  cases X with
  | nil =>
    refine ⟨[], ?_, List.Pairwise.nil, Sim.refl _, rfl⟩
    unfold insertion
    have : L.length + ([] : Rows0).length - (L.length + 1) = 0 := by simp
    rw [this]
    rfl
  | cons x X =>
    obtain ⟨Z, e1, e2, e3, e4⟩ := insA_spec X [x] L R (srt_one x)
    refine ⟨Z, ?_, e2, e3, by rw [e4]; simp; omega⟩
    unfold insertion
    have i1 : L.length + (x :: X).length - (L.length + 1) = X.length := by simp; omega
    have i2 : L ++ x :: X ++ R = L ++ [x] ++ X ++ R := by simp
    rw [i1, i2]
    exact e1
theorem bs_spec (p : Nat → Bool) : ∀ (n i j : Nat), i ≤ j → j - i ≤ n → i ≤ bs p n i j ∧ bs p n i j ≤ j ∧ (bs p n i j = i ∨ p (bs p n i j - 1) = true) ∧ (bs p n i j = j ∨ p (bs p n i j) = false)
  | 0, i, j, h, k => by
    have : i = j := by omega
    subst this
    simp [bs]
  | n + 1, i, j, h, k => by
    by_cases hlt : i < j
    · cases hp : p ((i + j) / 2)
      · rw [bs_no hlt hp]
        obtain ⟨a1, a2, a3, a4⟩ := bs_spec p n i ((i + j) / 2) (by omega) (by omega)
        refine ⟨a1, by omega, a3, ?_⟩
        rcases a4 with a4 | a4
        · right; rw [a4]; exact hp
        · exact .inr a4
      · rw [bs_yes hlt hp]
        obtain ⟨a1, a2, a3, a4⟩ := bs_spec p n ((i + j) / 2 + 1) j (by omega) (by omega)
        refine ⟨by omega, a2, ?_, a4⟩
        rcases a3 with a3 | a3
        · right; rw [a3, Nat.add_sub_cancel]; exact hp
        · exact .inr a3
    · rw [bs_end hlt]
      have : i = j := by omega
      subst this
      simp
/-- One ahead of a row that rises, all ahead of it that are less moved ahead. -/
theorem one_spec {Y : Rows0} {x : Row} {k : Nat} (hY : Srt Y) (hk : k ≤ Y.length) (h1 : k = 0 ∨ cmpT (gD Y (k - 1)) x < 0) (h2 : k = Y.length ∨ ¬ cmpT (gD Y k) x < 0) :
    Srt (Y.take k ++ x :: Y.drop k) ∧ Sim (Y.take k ++ x :: Y.drop k) (x :: Y) := by
  have a1 : ∀ y ∈ Y.take k, cmpT y x < 0 := fun y hy => by
    obtain ⟨i, hi, hl, rfl⟩ := mem_take_get hy
    have h1 := h1.resolve_left (by omega)
    exact isCmpT.ltr (srt_get hY (by omega) (by omega)) h1
  have a2 : ∀ y ∈ Y.drop k, cmpT x y ≤ 0 := fun y hy => by
    obtain ⟨i, hi, hl, rfl⟩ := mem_drop_get hy
    have h2 := le_of_not (h2.resolve_left (by omega))
    exact cmpT_trans _ _ _ h2 (srt_get hY hi hl)
  refine ⟨srt_put (by rw [List.take_append_drop]; exact hY) a2 fun y hy => le_of_lt' (a1 y hy), ?_⟩
  have e : x :: Y = [x] ++ Y.take k ++ Y.drop k := by simp
  have e2 : Y.take k ++ x :: Y.drop k = Y.take k ++ [x] ++ Y.drop k := by simp
  rw [e, e2]
  refine Sim.app ?_ (Sim.refl _)
  exact (sim_swap fun x' hx' y hy => by simp at hx'; subst hx'; exact a1 y hy).symm
/-- One behind a row that rises, moved ahead of all that are greater. -/
theorem one_spec' {X : Rows0} {y : Row} {k : Nat} (hX : Srt X) (hk : k ≤ X.length) (h1 : k = 0 ∨ ¬ cmpT y (gD X (k - 1)) < 0) (h2 : k = X.length ∨ cmpT y (gD X k) < 0) :
    Srt (X.take k ++ y :: X.drop k) ∧ Sim (X.take k ++ y :: X.drop k) (X ++ [y]) := by
  have a1 : ∀ x ∈ X.take k, cmpT x y ≤ 0 := fun x hx => by
    obtain ⟨i, hi, hl, rfl⟩ := mem_take_get hx
    have h1 := le_of_not (h1.resolve_left (by omega))
    exact cmpT_trans _ _ _ (srt_get hX (by omega) (by omega)) h1
  have a2 : ∀ x ∈ X.drop k, cmpT y x < 0 := fun x hx => by
    obtain ⟨i, hi, hl, rfl⟩ := mem_drop_get hx
    exact isCmpT.ltl (h2.resolve_left (by omega)) (srt_get hX hi hl)
  refine ⟨srt_put (by rw [List.take_append_drop]; exact hX) (fun x hx => le_of_lt' (a2 x hx)) a1, ?_⟩
  have e : X ++ [y] = X.take k ++ (X.drop k ++ [y]) := by rw [← List.append_assoc, List.take_append_drop]
  rw [e]
  refine (Sim.refl _).app ?_
  have : y :: X.drop k = [y] ++ X.drop k := rfl
  rw [this]
  exact (sim_swap fun x hx y' hy => by simp at hy; subst hy; exact a2 x hx).symm
end Go.Am
namespace Go.Am
theorem len_pos {X : Rows0} (h : X ≠ []) : 0 < X.length := List.length_pos_iff.2 h
theorem symF_spec : ∀ (n : Nat) (X Y L R : Rows0), X ≠ [] → Y ≠ [] → X.length + Y.length ≤ n → Srt X → Srt Y →
    ∃ Z, symF n L.length (L.length + X.length) (L.length + X.length + Y.length) (L ++ X ++ Y ++ R) = L ++ Z ++ R ∧ Srt Z ∧ Sim Z (X ++ Y) ∧ Z.length = X.length + Y.length
  | 0, X, Y, L, R, hX, hY, h, sX, sY => by
    have := len_pos hX
    omega
  | n + 1, X, Y, L, R, hX, hY, h, sX, sY => by
    have pX := len_pos hX
    have pY := len_pos hY
    unfold symF
    have gX : ∀ i, i < X.length → gD (L ++ X ++ Y ++ R) (L.length + i) = gD X i := fun i hi => by
      have : L ++ X ++ Y ++ R = L ++ (X ++ (Y ++ R)) := by simp
      rw [this, gD_r, gD_l _ _ hi]
    have gY : ∀ i, i < Y.length → gD (L ++ X ++ Y ++ R) (L.length + X.length + i) = gD Y i := fun i hi => by
      have e : L ++ X ++ Y ++ R = (L ++ X) ++ (Y ++ R) := by simp
      have e2 : L.length + X.length + i = (L ++ X).length + i := by simp
      rw [e, e2, gD_r, gD_l _ _ hi]
    by_cases h1 : X.length = 1
    · rw [if_pos (by omega)]
      obtain ⟨x, rfl⟩ : ∃ x, X = [x] := List.length_eq_one_iff.1 h1
      obtain ⟨b1, b2, b3, b4⟩ := bs_spec (fun q => decide (cmpT (gD (L ++ [x] ++ Y ++ R) q) (gD (L ++ [x] ++ Y ++ R) L.length) < 0)) (L.length + [x].length + Y.length - (L.length + 1)) (L.length + 1) (L.length + [x].length + Y.length) (by omega) (Nat.le_refl _)
      generalize bs (fun q => decide (cmpT (gD (L ++ [x] ++ Y ++ R) q) (gD (L ++ [x] ++ Y ++ R) L.length) < 0)) (L.length + [x].length + Y.length - (L.length + 1)) (L.length + 1) (L.length + [x].length + Y.length) = st at *
      have g0 : gD (L ++ [x] ++ Y ++ R) L.length = x := gX 0 (by simp)
      simp only [g0, decide_eq_true_eq, decide_eq_false_iff_not] at b3 b4
      simp only [List.length_singleton] at b1 b2 b3 b4 gY
      obtain ⟨k, hk⟩ : ∃ k, k = st - (L.length + 1) := ⟨_, rfl⟩
      have hkY : k ≤ Y.length := by omega
      have f1 : k = 0 ∨ cmpT (gD Y (k - 1)) x < 0 := by
        rcases b3 with b3 | b3
        · left; omega
        · by_cases k0 : k = 0
          · exact .inl k0
          · right
            rw [← gY (k - 1) (by omega)]
            have : L.length + 1 + (k - 1) = st - 1 := by omega
            rw [this]; exact b3
      have f2 : k = Y.length ∨ ¬ cmpT (gD Y k) x < 0 := by
        rcases b4 with b4 | b4
        · left; omega
        · by_cases k0 : k = Y.length
          · exact .inl k0
          · right
            rw [← gY k (by omega)]
            have : L.length + 1 + k = st := by omega
            rw [this]; exact b4
      obtain ⟨s1, s2⟩ := one_spec sY hkY f1 f2
      refine ⟨Y.take k ++ x :: Y.drop k, ?_, s1, s2, by simp; omega⟩
      have e1 : st - 1 - L.length = (Y.take k).length := by simp; omega
      have e2 : L ++ [x] ++ Y ++ R = L ++ x :: (Y.take k) ++ (Y.drop k ++ R) := by
        have : L ++ x :: (Y.take k) ++ (Y.drop k ++ R) = L ++ [x] ++ (Y.take k ++ Y.drop k) ++ R := by simp only [List.append_assoc, List.cons_append, List.nil_append]
        rw [this, List.take_append_drop]
      rw [e1, e2, movU_app]
      simp
    · rw [if_neg (by omega)]
      by_cases h2 : Y.length = 1
      · rw [if_pos (by omega)]
        obtain ⟨y, rfl⟩ : ∃ y, Y = [y] := List.length_eq_one_iff.1 h2
        have g0 : gD (L ++ X ++ [y] ++ R) (L.length + X.length) = y := gY 0 (by simp)
        obtain ⟨b1, b2, b3, b4⟩ := bs_spec (fun q => !decide (cmpT (gD (L ++ X ++ [y] ++ R) (L.length + X.length)) (gD (L ++ X ++ [y] ++ R) q) < 0)) (L.length + X.length - L.length) L.length (L.length + X.length) (by omega) (Nat.le_refl _)
        generalize bs (fun q => !decide (cmpT (gD (L ++ X ++ [y] ++ R) (L.length + X.length)) (gD (L ++ X ++ [y] ++ R) q) < 0)) (L.length + X.length - L.length) L.length (L.length + X.length) = st at *
        simp only [g0, Bool.not_eq_true', decide_eq_false_iff_not, Bool.not_eq_false', decide_eq_true_eq] at b3 b4
        obtain ⟨k, hk⟩ : ∃ k, k = st - L.length := ⟨_, rfl⟩
        have hkX : k ≤ X.length := by omega
        have f1 : k = 0 ∨ ¬ cmpT y (gD X (k - 1)) < 0 := by
          rcases b3 with b3 | b3
          · left; omega
          · by_cases k0 : k = 0
            · exact .inl k0
            · right
              rw [← gX (k - 1) (by omega)]
              have : L.length + (k - 1) = st - 1 := by omega
              rw [this]; exact b3
        have f2 : k = X.length ∨ cmpT y (gD X k) < 0 := by
          rcases b4 with b4 | b4
          · left; omega
          · by_cases k0 : k = X.length
            · exact .inl k0
            · right
              rw [← gX k (by omega)]
              have : L.length + k = st := by omega
              rw [this]; exact b4
        obtain ⟨s1, s2⟩ := one_spec' sX hkX f1 f2
        refine ⟨X.take k ++ y :: X.drop k, ?_, s1, s2, by simp; omega⟩
        have e0 : st = (L ++ X.take k).length := by simp; omega
        have e1 : L.length + X.length = (L ++ X.take k).length + (X.drop k).length := by simp; omega
        have e2 : L ++ X ++ [y] ++ R = (L ++ X.take k) ++ X.drop k ++ y :: R := by
          have : X = X.take k ++ X.drop k := (List.take_append_drop _ _).symm
          conv => lhs; rw [this]
          simp
        rw [e0, e1, e2, movD_app _ _ _ _ _ rfl]
        simp
      · rw [if_neg (by omega)]
        simp only
        generalize hD : L ++ X ++ Y ++ R = D at *
        obtain ⟨mid, hmid⟩ : ∃ mid, mid = (L.length + (L.length + X.length + Y.length)) / 2 := ⟨_, rfl⟩
        rw [← hmid]
        generalize hi0 : (if mid < L.length + X.length then mid + (L.length + X.length) - (L.length + X.length + Y.length) else L.length) = i0
        generalize hj0 : (if mid < L.length + X.length then mid else L.length + X.length) = j0
        have bnd : L.length ≤ i0 ∧ i0 ≤ j0 ∧ j0 ≤ mid ∧ j0 ≤ L.length + X.length := by
          by_cases hm : mid < L.length + X.length
          · rw [if_pos hm] at hi0 hj0; omega
          · rw [if_neg hm] at hi0 hj0; omega
        obtain ⟨b1, b2, b3, b4⟩ := bs_spec (fun q => !decide (cmpT (gD D (mid + (L.length + X.length) - 1 - q)) (gD D q) < 0)) (j0 - i0) i0 j0 bnd.2.1 (Nat.le_refl _)
        have hsS : symS D (mid + (L.length + X.length)) i0 j0 = bs (fun q => !decide (cmpT (gD D (mid + (L.length + X.length) - 1 - q)) (gD D q) < 0)) (j0 - i0) i0 j0 := rfl
        rw [hsS]
        generalize bs (fun q => !decide (cmpT (gD D (mid + (L.length + X.length) - 1 - q)) (gD D q) < 0)) (j0 - i0) i0 j0 = st at *
        simp only [Bool.not_eq_true', decide_eq_false_iff_not, Bool.not_eq_false', decide_eq_true_eq] at b3 b4
        obtain ⟨i, hi⟩ : ∃ i, i = st - L.length := ⟨_, rfl⟩
        obtain ⟨e, he⟩ : ∃ e, e = mid - st := ⟨_, rfl⟩
        have hiX : i ≤ X.length := by omega
        have heY : e ≤ Y.length := by
          by_cases hm : mid < L.length + X.length
          · rw [if_pos hm] at hi0 hj0; omega
          · rw [if_neg hm] at hi0 hj0; omega
        have hen : mid + (L.length + X.length) - st = L.length + X.length + e := by omega
        have hst : st = L.length + i := by omega
        have hmd : mid = L.length + i + e := by omega
        have F1 : i = 0 ∨ e = Y.length ∨ cmpT (gD X (i - 1)) (gD Y e) ≤ 0 := by
          rcases b3 with b3 | b3
          · by_cases hm : mid < L.length + X.length
            · rw [if_pos hm] at hi0 hj0; right; left; omega
            · rw [if_neg hm] at hi0 hj0; left; omega
          · by_cases k0 : i = 0
            · exact .inl k0
            · by_cases k1 : e = Y.length
              · exact .inr (.inl k1)
              · right; right
                rw [← gX (i - 1) (by omega), ← gY e (by omega)]
                have a1 : L.length + (i - 1) = st - 1 := by omega
                have a2 : L.length + X.length + e = mid + (L.length + X.length) - 1 - (st - 1) := by omega
                rw [a1, a2]
                exact le_of_not b3
        have F2 : i = X.length ∨ e = 0 ∨ cmpT (gD Y (e - 1)) (gD X i) < 0 := by
          rcases b4 with b4 | b4
          · by_cases hm : mid < L.length + X.length
            · rw [if_pos hm] at hi0 hj0; right; left; omega
            · rw [if_neg hm] at hi0 hj0; left; omega
          · by_cases k0 : i = X.length
            · exact .inl k0
            · by_cases k1 : e = 0
              · exact .inr (.inl k1)
              · right; right
                rw [← gX i (by omega), ← gY (e - 1) (by omega)]
                have a1 : L.length + i = st := by omega
                have a2 : L.length + X.length + (e - 1) = mid + (L.length + X.length) - 1 - st := by omega
                rw [a1, a2]
                exact b4
        have hX1 : (X.take i).length = i := by simp; omega
        have hX2 : (X.drop i).length = X.length - i := by simp
        have hY1 : (Y.take e).length = e := by simp; omega
        have hY2 : (Y.drop e).length = Y.length - e := by simp
        have kX : X = X.take i ++ X.drop i := (List.take_append_drop _ _).symm
        have kY : Y = Y.take e ++ Y.drop e := (List.take_append_drop _ _).symm
        have sX1 := sX.take i
        have sX2 := sX.drop i
        have sY1 := sY.take e
        have sY2 := sY.drop e
        -- all of the first part is no greater than all of the second
        have c11 : ∀ x ∈ X.take i, ∀ y ∈ X.drop i, cmpT x y ≤ 0 := fun x hx y hy => by
          obtain ⟨a, a1, a2, rfl⟩ := mem_take_get hx
          obtain ⟨b, b1, b2, rfl⟩ := mem_drop_get hy
          exact srt_get sX (by omega) b2
        have c12 : ∀ x ∈ X.take i, ∀ y ∈ Y.drop e, cmpT x y ≤ 0 := fun x hx y hy => by
          obtain ⟨a, a1, a2, rfl⟩ := mem_take_get hx
          obtain ⟨b, b1, b2, rfl⟩ := mem_drop_get hy
          have F := (F1.resolve_left (by omega)).resolve_left (by omega)
          exact cmpT_trans _ _ _ (srt_get sX (by omega) (by omega)) (cmpT_trans _ _ _ F (srt_get sY (by omega) b2))
        have c21 : ∀ y ∈ Y.take e, ∀ x ∈ X.drop i, cmpT y x < 0 := fun y hy x hx => by
          obtain ⟨a, a1, a2, rfl⟩ := mem_take_get hy
          obtain ⟨b, b1, b2, rfl⟩ := mem_drop_get hx
          have F := (F2.resolve_left (by omega)).resolve_left (by omega)
          exact isCmpT.ltl (isCmpT.ltr (srt_get sY (by omega) (by omega)) F) (srt_get sX (by omega) b2)
        have c22 : ∀ x ∈ Y.take e, ∀ y ∈ Y.drop e, cmpT x y ≤ 0 := fun x hx y hy => by
          obtain ⟨a, a1, a2, rfl⟩ := mem_take_get hx
          obtain ⟨b, b1, b2, rfl⟩ := mem_drop_get hy
          exact srt_get sY (by omega) b2
        have hsum : X.length + Y.length ≤ n + 1 := h
        have hDD : D = L ++ X.take i ++ X.drop i ++ Y.take e ++ (Y.drop e ++ R) := by
          have : L ++ X.take i ++ X.drop i ++ Y.take e ++ (Y.drop e ++ R) = L ++ (X.take i ++ X.drop i) ++ (Y.take e ++ Y.drop e) ++ R := by simp only [List.append_assoc]
          rw [this, List.take_append_drop, List.take_append_drop, hD]
        rw [hen]
        clear b3 b4 F1 F2 gX gY hsS hD
        generalize X.take i = X1 at *
        generalize X.drop i = X2 at *
        generalize Y.take e = Y1 at *
        generalize Y.drop e = Y2 at *
        have hrot : (if st < L.length + X.length ∧ L.length + X.length < L.length + X.length + e then rotF (L.length + X.length) (L.length + X.length + e - st) (L.length + X.length - st) (L.length + X.length + e - (L.length + X.length)) D else D) = L ++ X1 ++ Y1 ++ (X2 ++ Y2 ++ R) := by
          by_cases hr : st < L.length + X.length ∧ L.length + X.length < L.length + X.length + e
          · rw [if_pos hr]
            have r := rot_app (L.length + X.length + e - st) X2 Y1 (L ++ X1) (Y2 ++ R) (by intro h; rw [h] at hX2; simp at hX2; omega) (by intro h; rw [h] at hY1; simp at hY1; omega) (by omega)
            have e1 : L.length + X.length = (L ++ X1).length + X2.length := by simp; omega
            have e2 : L.length + X.length - st = X2.length := by omega
            have e3 : L.length + X.length + e - (L.length + X.length) = Y1.length := by omega
            rw [e2, e3, hDD]
            conv => lhs; arg 1; rw [e1]
            rw [r]
            simp
          · rw [if_neg hr, hDD]
            have : X2 = [] ∨ Y1 = [] := by
              by_cases h : st < L.length + X.length
              · right; exact List.eq_nil_of_length_eq_zero (by omega)
              · left; exact List.eq_nil_of_length_eq_zero (by omega)
            rcases this with rfl | rfl <;> simp
        rw [hrot]
        have hleft : ∃ Z1, (if L.length < st ∧ st < mid then symF n L.length st mid (L ++ X1 ++ Y1 ++ (X2 ++ Y2 ++ R)) else L ++ X1 ++ Y1 ++ (X2 ++ Y2 ++ R)) = L ++ Z1 ++ (X2 ++ Y2 ++ R) ∧ Srt Z1 ∧ Sim Z1 (X1 ++ Y1) ∧ Z1.length = X1.length + Y1.length := by
          by_cases hr : L.length < st ∧ st < mid
          · rw [if_pos hr]
            have r := symF_spec n X1 Y1 L (X2 ++ Y2 ++ R) (by intro h; rw [h] at hX1; simp at hX1; omega) (by intro h; rw [h] at hY1; simp at hY1; omega) (by omega) sX1 sY1
            have e1 : L.length + X1.length = st := by omega
            have e2 : st + Y1.length = mid := by omega
            rw [e1, e2] at r
            exact r
          · rw [if_neg hr]
            refine ⟨X1 ++ Y1, by simp, ?_, Sim.refl _, by simp⟩
            have : X1 = [] ∨ Y1 = [] := by
              by_cases h : L.length < st
              · right; exact List.eq_nil_of_length_eq_zero (by omega)
              · left; exact List.eq_nil_of_length_eq_zero (by omega)
            rcases this with rfl | rfl
            · simpa using sY1
            · simpa using sX1
        obtain ⟨Z1, z1, z2, z3, z4⟩ := hleft
        rw [z1]
        have hright : ∃ Z2, (if mid < L.length + X.length + e ∧ L.length + X.length + e < L.length + X.length + Y.length then symF n mid (L.length + X.length + e) (L.length + X.length + Y.length) (L ++ Z1 ++ (X2 ++ Y2 ++ R)) else L ++ Z1 ++ (X2 ++ Y2 ++ R)) = L ++ Z1 ++ Z2 ++ R ∧ Srt Z2 ∧ Sim Z2 (X2 ++ Y2) ∧ Z2.length = X2.length + Y2.length := by
          by_cases hr : mid < L.length + X.length + e ∧ L.length + X.length + e < L.length + X.length + Y.length
          · rw [if_pos hr]
            have r := symF_spec n X2 Y2 (L ++ Z1) R (by intro h; rw [h] at hX2; simp at hX2; omega) (by intro h; rw [h] at hY2; simp at hY2; omega) (by omega) sX2 sY2
            have e0 : (L ++ Z1).length = mid := by simp; omega
            have e1 : mid + X2.length = L.length + X.length + e := by omega
            have e2 : L.length + X.length + e + Y2.length = L.length + X.length + Y.length := by omega
            rw [e0, e1, e2] at r
            have e3 : L ++ Z1 ++ (X2 ++ Y2 ++ R) = L ++ Z1 ++ X2 ++ Y2 ++ R := by simp
            rw [e3]
            exact r
          · rw [if_neg hr]
            refine ⟨X2 ++ Y2, by simp, ?_, Sim.refl _, by simp⟩
            have : X2 = [] ∨ Y2 = [] := by
              by_cases h : mid < L.length + X.length + e
              · right; exact List.eq_nil_of_length_eq_zero (by omega)
              · left; exact List.eq_nil_of_length_eq_zero (by omega)
            rcases this with rfl | rfl
            · simpa using sY2
            · simpa using sX2
        obtain ⟨Z2, y1, y2, y3, y4⟩ := hright
        refine ⟨Z1 ++ Z2, by rw [y1]; simp, srt_app z2 y2 fun x hx y hy => ?_, ?_, by simp; omega⟩
        · rcases List.mem_append.1 (z3.mem.1 hx) with hx | hx
          · rcases List.mem_append.1 (y3.mem.1 hy) with hy | hy
            · exact c11 x hx y hy
            · exact c12 x hx y hy
          · rcases List.mem_append.1 (y3.mem.1 hy) with hy | hy
            · exact le_of_lt' (c21 x hx y hy)
            · exact c22 x hx y hy
        · refine (z3.app y3).trans ?_
          have e1 : X1 ++ Y1 ++ (X2 ++ Y2) = X1 ++ (Y1 ++ X2) ++ Y2 := by simp
          have e2 : X ++ Y = X1 ++ (X2 ++ Y1) ++ Y2 := by rw [kX, kY]; simp
          rw [e1, e2]
          refine Sim.app (Sim.app (Sim.refl _) ?_) (Sim.refl _)
          exact (sim_swap fun x hx y hy => c21 y hy x hx).symm
end Go.Am
namespace Go.Am
/-- Rising in parts of z each. -/
inductive Blk (z : Nat) : Rows0 → Prop
  | last (Q : Rows0) (h : Q.length ≤ z) (hs : Srt Q) : Blk z Q
  | cons (X Q : Rows0) (hl : X.length = z) (hs : Srt X) (hq : Blk z Q) : Blk z (X ++ Q)
theorem stB1_spec : ∀ (k : Nat) (P Q : Rows0), Q.length < k → ∃ Q', stB1 (P ++ Q).length k P.length (P ++ Q) = P ++ Q' ∧ Blk 20 Q' ∧ Sim Q' Q ∧ Q'.length = Q.length
  | 0, P, Q, h => by omega
  | k + 1, P, Q, h => by
    unfold stB1
    by_cases h20 : P.length + 20 ≤ (P ++ Q).length
    · rw [if_pos h20]
      have hq : 20 ≤ Q.length := by simp at h20; omega
      have hX : (Q.take 20).length = 20 := by simp; omega
      have hY : (Q.drop 20).length = Q.length - 20 := by simp
      have key : Q = Q.take 20 ++ Q.drop 20 := (List.take_append_drop _ _).symm
      generalize Q.take 20 = X at *
      generalize Q.drop 20 = Y at *
      subst key
      obtain ⟨Z, e1, e2, e3, e4⟩ := insertion_spec X P Y
      have i1 : P ++ (X ++ Y) = P ++ X ++ Y := by simp
      rw [hX] at e1
      rw [i1, e1]
      have hlen : (P ++ X ++ Y).length = (P ++ Z ++ Y).length := by simp; omega
      obtain ⟨Q', k1, k2, k3, k4⟩ := stB1_spec k (P ++ Z) Y (by omega)
      have i2 : P.length + 20 = (P ++ Z).length := by simp; omega
      rw [hlen, i2, k1]
      refine ⟨Z ++ Q', by simp, .cons Z Q' (by omega) e2 k2, e3.app k3, by simp; omega⟩
    · rw [if_neg h20]
      obtain ⟨Z, e1, e2, e3, e4⟩ := insertion_spec Q P []
      simp only [List.append_nil] at e1
      have : (P ++ Q).length = P.length + Q.length := by simp
      rw [this, e1]
      exact ⟨Z, rfl, .last Z (by simp at h20; omega) e2, e3, e4⟩
theorem merB_spec {z : Nat} (hz : 0 < z) : ∀ (k : Nat) (P Q : Rows0), Q.length < k → Blk z Q → ∃ Q', merB (P ++ Q).length z k P.length (P ++ Q) = P ++ Q' ∧ Blk (2 * z) Q' ∧ Sim Q' Q ∧ Q'.length = Q.length
  | 0, P, Q, h, hb => by omega
  | k + 1, P, Q, h, hb => by
    unfold merB
    by_cases h2 : P.length + 2 * z ≤ (P ++ Q).length
    · rw [if_pos h2]
      have hq : 2 * z ≤ Q.length := by simp at h2; omega
      obtain ⟨X, Y, Q2, rfl, hX, hY, sX, sY, hQ2⟩ : ∃ X Y Q2, Q = X ++ Y ++ Q2 ∧ X.length = z ∧ Y.length = z ∧ Srt X ∧ Srt Y ∧ Blk z Q2 := by
        cases hb with
        | last Q hl hs => omega
        | cons X Q hl hs hq' =>
          cases hq' with
          | last Q hl2 hs2 =>
            have : Q.length = z := by simp at hq; omega
            exact ⟨X, Q, [], by simp, hl, this, hs, hs2, .last [] (by simp) List.Pairwise.nil⟩
          | cons Y Q hl2 hs2 hq2 => exact ⟨X, Y, Q, by simp, hl, hl2, hs, hs2, hq2⟩
      obtain ⟨Z, e1, e2, e3, e4⟩ := symF_spec (P ++ (X ++ Y ++ Q2)).length X Y P Q2 (by intro h; rw [h] at hX; simp at hX; omega) (by intro h; rw [h] at hY; simp at hY; omega) (by simp; omega) sX sY
      have i1 : P ++ (X ++ Y ++ Q2) = P ++ X ++ Y ++ Q2 := by simp
      have i2 : P.length + z = P.length + X.length := by omega
      have i3 : P.length + 2 * z = P.length + X.length + Y.length := by omega
      rw [i2, i3]
      conv => enter [1, Q', 1, 1, 5]; rw [i1]
      rw [i1] at e1 ⊢
      rw [e1]
      have hlen : (P ++ X ++ Y ++ Q2).length = (P ++ Z ++ Q2).length := by simp; omega
      obtain ⟨Q', k1, k2, k3, k4⟩ := merB_spec hz k (P ++ Z) Q2 (by simp at h; omega) hQ2
      have i4 : P.length + X.length + Y.length = (P ++ Z).length := by simp; omega
      rw [hlen, i4, k1]
      refine ⟨Z ++ Q', by simp, .cons Z Q' (by omega) e2 k2, e3.app k3, by simp; omega⟩
    · rw [if_neg h2]
      by_cases h1 : P.length + z < (P ++ Q).length
      · rw [if_pos h1]
        have hq1 : z < Q.length := by simp at h1; omega
        have hq2 : Q.length < 2 * z := by simp at h2; omega
        obtain ⟨X, Y, rfl, hX, sX, sY⟩ : ∃ X Y, Q = X ++ Y ∧ X.length = z ∧ Srt X ∧ Srt Y := by
          cases hb with
          | last Q hl hs => omega
          | cons X Q hl hs hq' =>
            cases hq' with
            | last Q hl2 hs2 => exact ⟨X, Q, rfl, hl, hs, hs2⟩
            | cons Y Q hl2 hs2 hq2' => simp at hq2; omega
        obtain ⟨Z, e1, e2, e3, e4⟩ := symF_spec (P ++ (X ++ Y)).length X Y P [] (by intro h; rw [h] at hX; simp at hX; omega) (by intro h; rw [h] at hq1; simp at hq1; omega) (by simp) sX sY
        have i1 : P ++ (X ++ Y) = P ++ X ++ Y ++ [] := by simp
        have i2 : P.length + z = P.length + X.length := by omega
        have i3 : (P ++ (X ++ Y)).length = P.length + X.length + Y.length := by simp; omega
        refine ⟨Z, ?_, .last Z (by simp at hq2; omega) e2, e3, by simp; omega⟩
        rw [i2]
        conv => lhs; arg 4; rw [i3]
        conv => lhs; arg 5; rw [i1]
        rw [e1]
        simp
      · rw [if_neg h1]
        refine ⟨Q, rfl, ?_, Sim.refl _, rfl⟩
        have hq : Q.length ≤ z := by simp at h1; omega
        cases hb with
        | last Q hl hs => exact .last Q (by omega) hs
        | cons X Q hl hs hq' =>
          have : Q = [] := List.eq_nil_of_length_eq_zero (by simp at hq; omega)
          subst this
          rw [List.append_nil]
          exact .last X (by omega) hs
theorem stB2_spec : ∀ (k z : Nat) (D : Rows0), 0 < z → D.length - z < k → Blk z D → ∃ D', stB2 D.length k z D = D' ∧ Srt D' ∧ Sim D' D
  | 0, z, D, hz, h, hb => by omega
  | k + 1, z, D, hz, h, hb => by
    unfold stB2
    by_cases hlt : z < D.length
    · rw [if_pos hlt]
      obtain ⟨Q', e1, e2, e3, e4⟩ := merB_spec hz (D.length + 1) [] D (by omega) hb
      simp only [List.nil_append, List.length_nil] at e1
      rw [e1, ← e4]
      obtain ⟨D', k1, k2, k3⟩ := stB2_spec k (2 * z) Q' (by omega) (by omega) e2
      exact ⟨D', k1, k2, k3.trans e3⟩
    · rw [if_neg hlt]
      refine ⟨D, rfl, ?_, Sim.refl _⟩
      cases hb with
      | last Q hl hs => exact hs
      | cons X Q hl hs hq' =>
        have : Q = [] := List.eq_nil_of_length_eq_zero (by simp at hlt; omega)
        subst this
        rw [List.append_nil]
        exact hs
theorem stable_spec (D : Rows0) : Srt (stable D) ∧ Sim (stable D) D := by
  unfold stable
  obtain ⟨Q, e1, e2, e3, e4⟩ := stB1_spec (D.length + 1) [] D (by omega)
  simp only [List.nil_append, List.length_nil] at e1
  rw [e1]
  obtain ⟨D', k1, k2, k3⟩ := stB2_spec (D.length + 1) 20 Q (by omega) (by omega) e2
  rw [e4] at k1
  rw [k1]
  exact ⟨k2, k3.trans e3⟩
/-! ### each once -/
def StrR (l : Rows0) : Prop := l.Pairwise fun x y => cmpT x y < 0
theorem ddp_spec : ∀ (l : Rows0) (p : Row), Srt (p :: l) → StrR (p :: ddp p l) ∧ ∀ k, cl k (p :: ddp p l) = (cl k (p :: l)).take 1
  | [], p, h => by
    refine ⟨List.pairwise_singleton _ _, fun k => ?_⟩
    have : ddp p [] = [] := rfl
    rw [this, cl_cons]
    split <;> simp [cl]
  | x :: l, p, h => by
    obtain ⟨h1, h2⟩ := List.pairwise_cons.1 h
    obtain ⟨i1, i2⟩ := ddp_spec l x h2
    have hpx := h1 x (by simp)
    unfold ddp
    by_cases hc : cmpT x p = 0
    · rw [if_pos hc]
      obtain ⟨j1, j2⟩ := List.pairwise_cons.1 i1
      refine ⟨List.pairwise_cons.2 ⟨fun y hy => ?_, j2⟩, fun k => ?_⟩
      · rw [← isCmpT.eq_l hc]; exact j1 y hy
      · have := i2 k
        rw [cl_cons, cl_cons] at this
        rw [cl_cons, cl_cons, cl_cons]
        have e := isCmpT.eq_l (z := k) hc
        rw [e] at this
        rw [e]
        by_cases hk : cmpT p k = 0
        · rw [if_pos hk, if_pos hk] at this
          rw [if_pos hk, if_pos hk, if_pos hk]
          simp at this ⊢
          exact this
        · rw [if_neg hk, if_neg hk] at this
          rw [if_neg hk, if_neg hk, if_neg hk]
          exact this
    · rw [if_neg hc]
      have hlt : cmpT p x < 0 := by have := cmpT_anti p x; omega
      obtain ⟨j1, j2⟩ := List.pairwise_cons.1 i1
      refine ⟨List.pairwise_cons.2 ⟨fun y hy => ?_, i1⟩, fun k => ?_⟩
      · rcases List.mem_cons.1 hy with rfl | hy
        · exact hlt
        · exact isCmpT.ltl hlt (le_of_lt' (j1 y hy))
      · have := i2 k
        rw [cl_cons, cl_cons (X := x :: l)]
        by_cases hk : cmpT p k = 0
        · rw [if_pos hk, if_pos hk]
          have hn : cl k (x :: ddp x l) = [] := cl_none fun y hy e => by
            have hy' : cmpT p y < 0 := by
              rcases List.mem_cons.1 hy with rfl | hy
              · exact hlt
              · exact isCmpT.ltl hlt (le_of_lt' (j1 y hy))
            have e1 := isCmpT.eq_r (x := p) e
            omega
          rw [hn]
          simp
        · rw [if_neg hk, if_neg hk]
          exact this
theorem compT_spec {l : Rows0} (h : Srt l) : StrR (compT l) ∧ ∀ k, cl k (compT l) = (cl k l).take 1 := by
  cases l with
  | nil => exact ⟨List.Pairwise.nil, fun k => rfl⟩
  | cons x l => exact ddp_spec l x h
theorem str_uniq : ∀ (X Y : Rows0), StrR X → StrR Y → (∀ k, cl k X = cl k Y) → X = Y
  | [], [], _, _, _ => rfl
  | [], y :: Y, _, _, h => by
    have := h y
    rw [cl_cons, if_pos (cself y)] at this
    simp [cl] at this
  | x :: X, [], _, _, h => by
    have := h x
    rw [cl_cons, if_pos (cself x)] at this
    simp [cl] at this
  | x :: X, y :: Y, hx, hy, h => by
    obtain ⟨a1, a2⟩ := List.pairwise_cons.1 hx
    obtain ⟨b1, b2⟩ := List.pairwise_cons.1 hy
    have hxy : cmpT x y = 0 := by
      have m1 : x ∈ y :: Y := by
        have : x ∈ cl x (y :: Y) := by rw [← h x, cl_cons, if_pos (cself x)]; simp
        exact (cl_mem.1 this).1
      have m2 : y ∈ x :: X := by
        have : y ∈ cl y (x :: X) := by rw [h y, cl_cons, if_pos (cself y)]; simp
        exact (cl_mem.1 this).1
      rcases List.mem_cons.1 m1 with rfl | m1
      · exact cself x
      · rcases List.mem_cons.1 m2 with rfl | m2
        · exact cself y
        · have := b1 x m1
          have := a1 y m2
          have := cmpT_anti x y
          omega
    have nX : cl x X = [] := cl_none fun z hz e => by
      have := a1 z hz
      have := cmpT_anti x z
      omega
    have nY : cl x Y = [] := cl_none fun z hz e => by
      have := b1 z hz
      have e2 := isCmpT.eq_r (x := y) e
      have := cmpT_anti x y
      omega
    have e := h x
    have hyx : cmpT y x = 0 := by have := cmpT_anti x y; omega
    rw [cl_cons, cl_cons, if_pos (cself x), if_pos hyx, nX, nY] at e
    have e : x = y := by simpa using e
    subst e
    rw [str_uniq X Y a2 b2 fun k => ?_]
    have := h k
    rw [cl_cons, cl_cons] at this
    split at this
    · simpa using this
    · exact this
/-! ### the document's sort -/
theorem posR_split (x : Row) : ∀ R : Rows0, (∀ y ∈ R.take (posR x R), cmpT y x < 0) ∧ (posR x R < R.length → ¬ cmpT (gD R (posR x R)) x < 0)
  | [] => by simp [posR]
  | y :: R => by
    obtain ⟨h1, h2⟩ := posR_split x R
    unfold posR
    by_cases hc : cmpT y x < 0
    · rw [if_pos hc]
      refine ⟨fun z hz => ?_, fun h => ?_⟩
      · rw [List.take_succ_cons] at hz
        rcases List.mem_cons.1 hz with rfl | hz
        · exact hc
        · exact h1 z hz
      · have : gD (y :: R) (posR x R + 1) = gD R (posR x R) := rfl
        rw [this]
        exact h2 (by simpa using h)
    · rw [if_neg hc]
      exact ⟨by simp, fun _ => hc⟩
theorem refIns_spec {R : Rows0} (h : StrR R) (x : Row) : StrR (refIns R x) ∧ ∀ k, cl k (refIns R x) = if cmpT x k = 0 then (if cl k R = [] then [x] else cl k R) else cl k R := by
  obtain ⟨h1, h2⟩ := posR_split x R
  have hle := posR_le x R
  unfold refIns
  generalize posR x R = j at *
  have key : R.take j ++ R.drop j = R := List.take_append_drop _ _
  by_cases hc : j < R.length ∧ cmpT (gD R j) x = 0
  · rw [if_pos hc]
    refine ⟨h, fun k => ?_⟩
    split
    · rename_i hk
      rw [if_neg]
      have : gD R j ∈ cl k R := by
        rw [cl_mem]
        refine ⟨?_, ?_⟩
        · rw [gD_get hc.1]; exact List.getElem_mem _
        · rw [isCmpT.eq_l hc.2]; exact hk
      intro e
      rw [e] at this
      cases this
    · rfl
  · rw [if_neg hc]
    have hgt : ∀ y ∈ R.drop j, cmpT x y < 0 := fun y hy => by
      obtain ⟨i, hi, hl, rfl⟩ := mem_drop_get hy
      have a1 := h2 (by omega)
      have a2 : cmpT (gD R j) x ≠ 0 := fun e => hc ⟨by omega, e⟩
      have a3 : cmpT x (gD R j) < 0 := by have := cmpT_anti x (gD R j); omega
      by_cases e : i = j
      · subst e; exact a3
      · have := (List.pairwise_iff_getElem.1 h) j i (by omega) hl (by omega)
        rw [← gD_get (by omega), ← gD_get hl] at this
        exact isCmpT.ltl a3 (le_of_lt' this)
    rw [← key] at h
    obtain ⟨s1, s2, s3⟩ := List.pairwise_append.1 h
    refine ⟨?_, fun k => ?_⟩
    · rw [List.append_assoc]
      refine List.pairwise_append.2 ⟨s1, List.pairwise_cons.2 ⟨hgt, s2⟩, fun y hy z hz => ?_⟩
      rcases List.mem_cons.1 hz with rfl | hz
      · exact h1 y hy
      · exact s3 y hy z hz
    · have e0 : cl k R = cl k (R.take j) ++ cl k (R.drop j) := by rw [← cl_append, key]
      rw [cl_append, cl_append, cl_cons]
      have : cl k [] = [] := rfl
      rw [this]
      split
      · rename_i hk
        have n1 : cl k (R.take j) = [] := cl_none fun y hy e => by
          have a := h1 y hy
          have e1 := isCmpT.eq_l (z := x) (x := k) (y := k) (cself k)
          have e2 := isCmpT.eq_r (x := y) hk
          omega
        have n2 : cl k (R.drop j) = [] := cl_none fun y hy e => by
          have a := hgt y hy
          have e2 := isCmpT.eq_r (x := x) e
          omega
        rw [e0, n1, n2]
        simp
      · rw [e0]
        simp
theorem refF_spec : ∀ (D R : Rows0), StrR R → StrR (D.foldl refIns R) ∧ ∀ k, cl k (D.foldl refIns R) = if cl k R = [] then (cl k D).take 1 else cl k R
  | [], R, h => ⟨h, fun k => by
    have : cl k [] = [] := rfl
    show cl k R = _
    rw [this]
    split
    · rename_i e; rw [e]; rfl
    · rfl⟩
  | x :: D, R, h => by
    obtain ⟨a1, a2⟩ := refIns_spec h x
    obtain ⟨b1, b2⟩ := refF_spec D (refIns R x) a1
    refine ⟨b1, fun k => ?_⟩
    show cl k (D.foldl refIns (refIns R x)) = _
    rw [b2 k, a2 k, cl_cons]
    by_cases hk : cmpT x k = 0
    · rw [if_pos hk, if_pos hk]
      by_cases e : cl k R = []
      · simp [e]
      · simp [e]
    · rw [if_neg hk, if_neg hk]
theorem refS_spec (D : Rows0) : StrR (refS D) ∧ ∀ k, cl k (refS D) = (cl k D).take 1 := by
  obtain ⟨a1, a2⟩ := refF_spec D [] List.Pairwise.nil
  refine ⟨a1, fun k => ?_⟩
  have := a2 k
  have e : cl k [] = [] := rfl
  rw [e, if_pos rfl] at this
  exact this
theorem srt_spec (D : Rows0) : StrR (srt D) ∧ ∀ k, cl k (srt D) = (cl k D).take 1 := by
  obtain ⟨a1, a2⟩ := stable_spec D
  obtain ⟨b1, b2⟩ := compT_spec a1
  exact ⟨b1, fun k => by rw [← a2 k]; exact b2 k⟩
/-- What is sorted is the document's. -/
theorem srt_ref (D : Rows0) : refS D = srt D :=
  str_uniq _ _ (refS_spec D).1 (srt_spec D).1 fun k => by rw [(refS_spec D).2, (srt_spec D).2]
theorem srt_rise (D : Rows0) (i : Nat) (x y : Row) (hx : (srt D)[i]? = some x) (hy : (srt D)[i + 1]? = some y) : cmpT x y = -1 := by
  obtain ⟨h1, rfl⟩ := List.getElem?_eq_some_iff.1 hx
  obtain ⟨h2, rfl⟩ := List.getElem?_eq_some_iff.1 hy
  have := (List.pairwise_iff_getElem.1 (srt_spec D).1) i (i + 1) h1 h2 (by omega)
  have r := cmpT_rng (srt D)[i] (srt D)[i + 1]
  omega
theorem srt_in (D : Rows0) (x : Row) (hx : x ∈ D) : ∃ y ∈ srt D, cmpT y x = 0 := by
  have h := (srt_spec D).2 x
  have : x ∈ cl x D := cl_mem.2 ⟨hx, cself x⟩
  cases hcl : cl x D with
  | nil => rw [hcl] at this; cases this
  | cons y l =>
    rw [hcl] at h
    have hy : y ∈ cl x (srt D) := by rw [h]; simp
    exact ⟨y, (cl_mem.1 hy).1, (cl_mem.1 hy).2⟩
theorem srt_again (D : Rows0) : srt (srt D) = srt D :=
  str_uniq _ _ (srt_spec _).1 (srt_spec D).1 fun k => by
    rw [(srt_spec _).2, (srt_spec D).2, List.take_take]
    rfl
end Go.Am
