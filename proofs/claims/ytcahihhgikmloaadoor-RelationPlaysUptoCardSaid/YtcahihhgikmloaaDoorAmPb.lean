/- Part of the proof: abstract values over the given model of Go (P1). Conditions: none of its own; see the statement in the seat's Rows text. -/
import Derived.Test.YtcahihhgikmloaaDoorAmPa
import Derived.Test.YtcahihhgikmloaaDoorAmSg
set_option linter.unusedSimpArgs false
set_option linter.unusedVariables false
set_option linter.unusedSectionVars false
namespace Go.Am
/-! ### rows that are bare, each once -/
structure Bare (D : Rows0) : Prop where
  nd : D.Nodup
  bare : ∀ r ∈ D, r.map bareV = r
theorem Bare.tail {x : List V} {D : Rows0} (h : Bare (x :: D)) : Bare D := ⟨(List.nodup_cons.1 h.nd).2, fun r hr => h.bare r (by simp [hr])⟩
theorem bare_eq {x k : List V} (h : x.map bareV = x) (hc : cmpT x k = 0) : x = k.map bareV := by rw [← h]; exact cmpT_bare.1 hc
theorem cl_bare (k : List V) : ∀ (D : Rows0), Bare D → cl k D = if k.map bareV ∈ D then [k.map bareV] else []
  | [], _ => by simp [cl]
  | x :: D, h => by
    have ih := cl_bare k D h.tail
    have hx := h.bare x (by simp)
    rw [cl_cons]
    by_cases hc : cmpT x k = 0
    · rw [if_pos hc]
      have he := bare_eq hx hc
      have hn : k.map bareV ∉ D := by rw [← he]; exact (List.nodup_cons.1 h.nd).1
      rw [ih, if_neg hn, if_pos (by simp [he]), he]
    · rw [if_neg hc, ih]
      have hne : ¬ k.map bareV = x := fun e => hc (cmpT_bare.2 (by rw [hx, ← e]))
      simp [hne]
theorem strR_nodup {D : Rows0} (h : StrR D) : D.Nodup := by
  refine List.Pairwise.imp (fun {a b} hab e => ?_) h
  subst e
  have := cself a
  omega
theorem srt_mem {D : Rows0} (h : Bare D) (x : List V) : x ∈ srt D ↔ x ∈ D := by
  have hs := (srt_spec D).2 x
  have h1 : x ∈ srt D ↔ x ∈ cl x (srt D) := by rw [cl_mem]; simp [cself]
  rw [h1, hs, cl_bare x D h]
  constructor
  · intro hm
    by_cases hk : x.map bareV ∈ D
    · rw [if_pos hk] at hm
      simp at hm
      rw [hm]; exact hk
    · rw [if_neg hk] at hm; simp at hm
  · intro hm
    have he := h.bare x hm
    rw [he, if_pos hm]; simp
theorem srt_bare {D : Rows0} (h : Bare D) : Bare (srt D) := ⟨strR_nodup (srt_spec D).1, fun r hr => h.bare r ((srt_mem h r).1 hr)⟩
theorem nodup_le : ∀ {A B : Rows0}, A.Nodup → (∀ x ∈ A, x ∈ B) → A.length ≤ B.length
  | [], B, _, _ => by simp
  | x :: A, B, h, hs => by
    have hx := hs x (by simp)
    have h2 := nodup_le (A := A) (B := B.erase x) (List.nodup_cons.1 h).2 fun y hy => by
      have : y ≠ x := fun e => (List.nodup_cons.1 h).1 (e ▸ hy)
      exact (List.mem_erase_of_ne this).2 (hs y (by simp [hy]))
    rw [List.length_erase_of_mem hx] at h2
    have : 0 < B.length := List.length_pos_of_mem hx
    simp only [List.length_cons]
    omega
theorem srt_len {D : Rows0} (h : Bare D) : (srt D).length = D.length :=
  Nat.le_antisymm (nodup_le (srt_bare h).nd fun x hx => (srt_mem h x).1 hx) (nodup_le h.nd fun x hx => (srt_mem h x).2 hx)
theorem srt_ext {A B : Rows0} (hA : Bare A) (hB : Bare B) (h : ∀ x, x ∈ A ↔ x ∈ B) : srt A = srt B := by
  refine str_uniq _ _ (srt_spec A).1 (srt_spec B).1 fun k => ?_
  rw [(srt_spec A).2, (srt_spec B).2, cl_bare k A hA, cl_bare k B hB]
  simp [h]
theorem Bare.filter {D : Rows0} (h : Bare D) (p : List V → Bool) : Bare (D.filter p) := ⟨List.Pairwise.sublist List.filter_sublist h.nd, fun r hr => h.bare r (List.mem_filter.1 hr).1⟩
theorem srt_filter {D : Rows0} (h : Bare D) (p : List V → Bool) : srt (D.filter p) = (srt D).filter p := by
  refine str_uniq _ _ (srt_spec _).1 (List.Pairwise.sublist List.filter_sublist (srt_spec D).1) fun k => ?_
  rw [(srt_spec _).2, cl_bare k _ (h.filter p), cl_bare k _ ((srt_bare h).filter p)]
  have : k.map bareV ∈ (srt D).filter p ↔ k.map bareV ∈ D.filter p := by rw [List.mem_filter, List.mem_filter, srt_mem h]
  by_cases hk : k.map bareV ∈ D.filter p
  · rw [if_pos hk, if_pos (this.2 hk)]; rfl
  · rw [if_neg hk, if_neg fun h => hk (this.1 h)]; rfl
/-! ### what is in a relation -/
def BareR (R : List (List V × Nat)) : Prop := Bare (R.map (·.1))
theorem bareR_sel {R : List (List V × Nat)} (h : BareR R) (p : List V × Nat → Bool) : Bare (Sel p R) := by
  have hs : (Sel p R).Sublist (R.map (·.1)) := List.filter_sublist.map _
  exact ⟨List.Pairwise.sublist hs h.nd, fun r hr => h.bare r (hs.subset hr)⟩
theorem map_bare_bare (t : List V) : (t.map bareV).map bareV = t.map bareV := by
  rw [List.map_map]; exact List.map_congr_left fun v _ => bareV_bare v
theorem bareR_add {ar : Nat} {R : List (List V × Nat)} (h : BareR R) (t : List V) : BareR (addR ar R t) := by
  unfold addR
  cases ha : addOk ar R t with
  | false => exact h
  | true =>
    have hn : t.map bareV ∉ R.map (·.1) := by
      simp only [addOk, hasR, Bool.and_eq_true, Bool.not_eq_true', decide_eq_false_iff_not] at ha
      exact ha.2
    refine ⟨?_, fun r hr => ?_⟩
    · simp only [if_true, List.map_append, List.map_cons, List.map_nil]
      rw [List.nodup_append]
      refine ⟨h.nd, by simp, fun a ha b hb e => ?_⟩
      simp only [List.mem_singleton] at hb
      subst hb
      subst e
      exact hn ha
    · simp only [if_true, List.map_append, List.map_cons, List.map_nil, List.mem_append, List.mem_singleton] at hr
      rcases hr with hr | rfl
      · exact h.bare r hr
      · exact map_bare_bare t
theorem bareR_tr {R : List (List V × Nat)} (h : BareR R) : BareR (R.map tr) := by
  have : (R.map tr).map (·.1) = R.map (·.1) := by rw [List.map_map]; rfl
  unfold BareR
  rw [this]; exact h
theorem bareR_nil : BareR [] := ⟨List.nodup_nil, fun r hr => by cases hr⟩
theorem addR_mem {ar : Nat} {R : List (List V × Nat)} (t x : List V) (ht : t.length = ar) : x ∈ (addR ar R t).map (·.1) ↔ x ∈ R.map (·.1) ∨ x = t.map bareV := by
  unfold addR
  cases ha : addOk ar R t with
  | true => simp
  | false =>
    have hm : t.map bareV ∈ R.map (·.1) := by
      simp only [addOk, hasR, ht, decide_true, Bool.true_and, Bool.not_eq_false', decide_eq_true_eq] at ha
      exact ha
    simp only [Bool.false_eq_true, if_false]
    constructor
    · exact .inl
    · rintro (h | rfl)
      · exact h
      · exact hm
theorem fold_bare (L : List (V × V)) : ∀ R, BareR R → BareR (L.foldl (fun R p => addR 2 R (pr p)) R) := by
  induction L with
  | nil => exact fun R h => h
  | cons p L ih => exact fun R h => ih _ (bareR_add h _)
theorem fold_mem (L : List (V × V)) : ∀ R (x : List V), x ∈ (L.foldl (fun R p => addR 2 R (pr p)) R).map (·.1) ↔ x ∈ R.map (·.1) ∨ ∃ p ∈ L, x = (pr p).map bareV := by
  induction L with
  | nil => intro R x; simp
  | cons p L ih =>
    intro R x
    rw [List.foldl_cons, ih, addR_mem (ar := 2) (pr p) x rfl]
    constructor
    · rintro ((h | h) | ⟨q, hq, h⟩)
      · exact .inl h
      · exact .inr ⟨p, by simp, h⟩
      · exact .inr ⟨q, by simp [hq], h⟩
    · rintro (h | ⟨q, hq, h⟩)
      · exact .inl (.inl h)
      · rcases List.mem_cons.1 hq with rfl | hq
        · exact .inl (.inr h)
        · exact .inr ⟨q, hq, h⟩
theorem fillR_bare (L : List (V × V)) : BareR (fillR L) := fold_bare L _ bareR_nil
theorem fillR_mem (L : List (V × V)) (x : List V) : x ∈ (fillR L).map (·.1) ↔ ∃ p ∈ L, x = (pr p).map bareV := by
  have := fold_mem L [] x
  simpa [fillR] using this
theorem sel_all (R : List (List V × Nat)) : Sel (fun _ => true) R = R.map (·.1) := by
  unfold Sel
  congr 1
  exact List.filter_eq_self.2 fun _ _ => rfl
theorem srt_all_len {R : List (List V × Nat)} (h : BareR R) : (srt (Sel (fun _ => true) R)).length = R.length := by
  rw [srt_len (bareR_sel h _), sel_all, List.length_map]
end Go.Am
