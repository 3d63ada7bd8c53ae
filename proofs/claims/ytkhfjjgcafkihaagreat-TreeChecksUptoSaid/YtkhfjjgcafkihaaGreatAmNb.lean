/- Part of the proof: abstract values over the given model of Go (N4, N5). Conditions: none of its own; see the statement in the seat's Rows text. -/
import Derived.Test.YtkhfjjgcafkihaaGreatAmNa
import Derived.Maps.OwnIn
set_option linter.unusedSimpArgs false
set_option linter.unusedVariables false
set_option linter.unusedSectionVars false
namespace Go.Am
def leafB (n : Nd) : Bool := n.k.length == 0
def leavesE (n : Nd) : List Fc := ((allE n).filter leafB).map Nd.f
end Go.Am
namespace Go.Rf
open Go.Proofs Go.RowKit Go.Shelf
attribute [local go_sem] Oper.semAt_some
open Go.Am (Nd VR Mu St leafB)
def cell2 : Value → List Value
  | .agg a => [a.getD 0 undef, a.getD 1 undef]
  | _ => []
section
variable {μ : Mu} {s : St} {w : World}
def lvs (ys : List (NVal μ s w)) : List (NVal μ s w) := ys.filter fun x => leafB x.1.1
def flat (ys : List (NVal μ s w)) : List Value := (lvs ys).flatMap fun x => cell2 x.1.2
theorem lvs_leaf {ys : List (NVal μ s w)} {x : NVal μ s w} (h : leafB x.1.1 = true) : lvs (ys ++ [x]) = lvs ys ++ [x] := by simp [lvs, h]
theorem lvs_no {ys : List (NVal μ s w)} {x : NVal μ s w} (h : leafB x.1.1 = false) : lvs (ys ++ [x]) = lvs ys := by simp [lvs, h]
theorem flat_leaf {ys : List (NVal μ s w)} {x : NVal μ s w} (h : leafB x.1.1 = true) : flat (ys ++ [x]) = flat ys ++ cell2 x.1.2 := by simp [flat, lvs_leaf h]
theorem flat_no {ys : List (NVal μ s w)} {x : NVal μ s w} (h : leafB x.1.1 = false) : flat (ys ++ [x]) = flat ys := by simp [flat, lvs_no h]
theorem owns_same {W W' : World} {base e size n : Nat} {v : Value} {xs : List Value} (h : W.ownsRow base e size v n xs) (hs : ∀ (k : Nat) vs t fr, W.heap[k]? = some (.cells vs t fr) → W'.heap[k]? = some (.cells vs t fr)) : W'.ownsRow base e size v n xs :=
  ⟨h.1, h.2.imp_right fun ⟨g, cap, cur, h1, h2, h3, h4⟩ => ⟨g, cap, cur, h1, h2, hs _ _ _ _ h3, h4⟩⟩
def InvL (μ : Mu) (s : St) (w : World) (bl : Nat) (ys : List (NVal μ s w)) (W' : World) : Prop :=
  ∃ rv, Boxed W' bl 26 rv ∧ W'.ownsRow w.heap.size 29 2 rv (lvs ys).length (flat ys) ∧ rv.ownBlock ≠ some bl ∧ Below w.heap.size w W'
theorem InvL.os {bl B : Nat} {ys : List (NVal μ s w)} {W W' : World} (h : InvL μ s w bl ys W) (ho : Os B W W') (hB : w.heap.size ≤ B) : InvL μ s w bl ys W' := by
  obtain ⟨rv, h1, h2, h3, h4⟩ := h
  exact ⟨rv, ho.same _ _ h1 (.inr rfl), owns_same h2 fun k vs t fr hk => ho.same k _ hk (.inr rfl), h3, Os.below h4 ho (Nat.le_refl _) hB⟩
theorem fact_info : ∃ i z, Tryz.prog.info? 29 = some i ∧ i.zero = some z ∧ i.size = 2 ∧ i.bytes = 40 ∧ z.cells.size = 2 := by
  have h : (Tryz.prog.info? 29).any (fun i => i.size == 2 && i.bytes == 40 && (i.zero.any fun z => z.cells.size == 2)) = true := by kernel_rfl
  cases hi : Tryz.prog.info? 29 with
  | none => rw [hi] at h; cases h
  | some i =>
    rw [hi] at h
    simp only [Option.any_some, Bool.and_eq_true, beq_iff_eq] at h
    cases hz : i.zero with
    | none => rw [hz] at h; simp at h
    | some z =>
      rw [hz] at h
      simp at h
      exact ⟨i, z, rfl, hz, h.1.1, h.1.2, h.2⟩
theorem Kp.appended {W w1 : World} {n₀ l₀ B : Nat} {t e : TypeId} {size : Nat} {v v' : Value} {k : Nat} {xs : List Value} {tmp : Obj}
    (hv : Boxed W B t v) (hrow : W.ownsRow n₀ e size v k xs) (hgrow : (W.alloc tmp).grownBy w1 v.ownBlock) (ht : ¬ NT t) (he : ¬ NT e)
    (hk : KeepsOthers W (w1.setCell ⟨B, 0, none⟩ v')) (hb : Below n₀ W (w1.setCell ⟨B, 0, none⟩ v')) : Kp n₀ NT l₀ W (w1.setCell ⟨B, 0, none⟩ v') := by
  refine ⟨hb, fun j vs t' fr hnt hj => ?_, fun j o _ hj ho => hk.same j o hj ho⟩
  have hjB : j ≠ B := by
    rintro rfl
    rw [show W.heap[j]? = some (.cells #[v] t (0, 0)) from hv] at hj
    cases hj
    exact ht hnt
  have hlt := (Array.getElem?_eq_some_iff.1 hj).1
  have hjr : some j ≠ v.ownBlock := by
    rcases hrow.2 with ⟨rfl, _⟩ | ⟨g, cap, cur, rfl, _, hgb, _⟩
    · simp [Value.ownBlock]
    · intro e'
      obtain rfl : j = g := by simpa [Value.ownBlock] using e'
      rw [hgb] at hj
      cases hj
      exact he hnt
  rw [Below.heap_setCell w1 ⟨B, 0, none⟩ v' j hjB, hgrow.block j (by simp; omega) hjr, Below.heap_alloc W tmp j hlt]
  exact hj
theorem box2 {W : World} {B : Nat} {v0 v1 : Value} {t : TypeId} (h : W.heap[B]? = some (.cells #[v0, v1] t (0, 0))) : W.cell? ⟨B, 0, none⟩ = some v0 ∧ W.cell? ⟨B, 1, none⟩ = some v1 := by
  constructor <;> simp [World.cell?, h]
theorem cell_two_new (W : World) (y0 y1 : Value) (t : TypeId) (j : Nat) (u : Value) (hu : [y0, y1][j]? = some u) : (W.alloc (.cells #[y0, y1] t)).cell? ((⟨W.heap.size, 0, none⟩ : Addr).add j) = some u := by
  obtain ⟨h0, h1⟩ := box2 (World.alloc_heap_new W (.cells #[y0, y1] t))
  match j, hu with
  | 0, hu => simp at hu; subst hu; exact h0
  | 1, hu => simp at hu; subst hu; exact h1
end
set_option maxRecDepth 20000 in
set_option maxHeartbeats 4000000 in
theorem Leaves_in {μ : Mu} {s : St} {w : World} (n : Nd) (hbd : Go.Am.sizeE n < Go.Am.MB) (v : Value) (hv : VR μ s w (.agg n.cs) v) :
    CallsIn Fence.wide 0 Tryz.prog 16 #[v] w fun e w' => ∃ (rv : Value) (ys : List (NVal μ s w)), e = .returned rv ∧ ys.map (·.1.1) = Go.Am.allE n ∧ w'.ownsRow w.heap.size 29 2 rv (lvs ys).length (flat ys) ∧ Below w.heap.size w w' := by
  obtain ⟨v0, v1, v2, ba, cap, rfl, hcap, ⟨o0, o1, o2⟩, hkids⟩ := vr_node hv
  obtain ⟨ti, tz, hti, htz, hts, htb, htc⟩ := fact_info
  refine callsIn_of_wp_marks Tryz.func16 rfl trivial ?_ rfl
  simp only [Tryz.ntmps16, List.size_toArray, List.length_cons, List.length_nil, Nat.reduceAdd, Nat.reduceSub, Array.replicate_succ, Array.replicate_zero, List.push_toArray, List.append_toArray, List.nil_append, List.cons_append]
  have hB := World.alloc_heap_new w (.cells #[v0, v1, v2, .slice ba n.k.length cap] 34)
  obtain ⟨b0, b1, b2, b3⟩ := box4 hB
  gi_wp2
  refine ⟨trivial, rfl, (nodes_in _ _ _ _ _).mono ?_⟩
  rintro e w' ⟨rfl, rfl⟩
  gi_wp2
  generalize hW3 : ((w.alloc (.cells #[v0, v1, v2, .slice ba n.k.length cap] 34)).alloc (.cells #[.slice none 0 0] 26)).alloc (.cells #[v0, v1, v2, .slice ba n.k.length cap] 34) = W3
  have hs3 : W3.heap.size = w.heap.size + 1 + 1 + 1 := by rw [← hW3]; simp
  have hb3 : Below w.heap.size w W3 := by rw [← hW3]; exact (((Below.refl _ w).alloc (Nat.le_refl _) _).alloc (by simp) _).alloc (by simp only [World.size_alloc]; omega) _
  have hbox : W3.heap[w.heap.size + 1 + 1]? = some (.cells #[v0, v1, v2, .slice ba n.k.length cap] 34 (0, 0)) := by
    rw [← hW3]
    have := World.alloc_heap_new ((w.alloc (.cells #[v0, v1, v2, .slice ba n.k.length cap] 34)).alloc (.cells #[.slice none 0 0] 26)) (.cells #[v0, v1, v2, .slice ba n.k.length cap] 34)
    rwa [World.size_alloc, World.size_alloc] at this
  have hcnt : Boxed W3 (w.heap.size + 1) 26 (.slice none 0 0) := by
    rw [← hW3]
    have := Boxed.new (w.alloc (.cells #[v0, v1, v2, .slice ba n.k.length cap] 34)) 26 (.slice none 0 0)
    rw [World.size_alloc] at this
    exact this.alloc _
  refine range_law (hg := rfl) (eg := enters_of Tryz.func52 (by kernel_rfl) rfl) (n₀ := w.heap.size) (l₀ := w.heap.size) (tp := NT) (encs := encN (μ := μ) (s := s) (w := w))
    (hit := nodes1 n hbd _ hv (w.heap.size + 1 + 1) W3 v0 v1 v2 _ rfl hb3 hbox) (by omega) (by omega) (fun x => rfl)
    (I := InvL μ s w (w.heap.size + 1)) (Ix := fun _ _ => False)
    (M := fun ys x a1 W' => ∃ Bx y0 y1 y2 yba ycap, x.1.2 = .agg #[y0, y1, y2, .slice yba x.1.1.k.length ycap] ∧ y0.oneCell' = true ∧ y1.oneCell' = true ∧ (ys ++ [x]).map (·.1.1) <+: Go.Am.allE n ∧ a1 = { tmps := #[.agg #[v0, v1, v2, .slice ba n.k.length cap], .pointer (some ⟨w.heap.size, 0, none⟩), .slice none 0 0, .pointer (some ⟨w.heap.size + 1, 0, none⟩), .pointer (some ⟨Bx, 0, none⟩), .agg #[v0, v1, v2, .slice ba n.k.length cap], .func (.func 52) #[] #[.pointer (some ⟨w.heap.size + 1 + 1, 0, none⟩)], x.1.2, undef, undef, undef, undef, undef, undef, undef, undef, undef, undef], defers := [] } ∧ W'.heap[Bx]? = some (.cells #[y0, y1, y2, .slice yba x.1.1.k.length ycap] 34 (0, 0)) ∧ InvL μ s w (w.heap.size + 1) ys W')
    ?hI ?hIx ?h0 ?hM ?assign ?body ?done ?stop
  case hI => exact fun ys W' W'' h ho => h.os ho (by omega)
  case hIx => exact fun ys W' W'' h ho => h
  case h0 => exact ⟨_, hcnt, World.ownsRow_nil _ _ _ _, by simp [Value.ownBlock], hb3⟩
  case hM =>
    rintro ys x a1 W' W'' ⟨Bx, y0, y1, y2, yba, ycap, hx, p0, p1, hsp, rfl, h1, h2⟩ ho
    exact ⟨Bx, y0, y1, y2, yba, ycap, hx, p0, p1, hsp, rfl, ho.same _ _ h1 (.inr rfl), h2.os ho (by omega)⟩
  case assign =>
    rintro l2 ys x W' hsp h
    obtain ⟨y0, y1, y2, yba, ycap, hx, _, ⟨p0, p1, p2⟩, _⟩ := vr_node x.2
    have nw := box4 (World.alloc_heap_new W' (.cells #[Value.string { data := #[] }, Value.slice none 0 0, Value.int IntKind.i64 0, Value.slice none 0 0] 34))
    obtain ⟨nw0, nw1, nw2, nw3⟩ := nw
    have su0 := fun w' a m => run_store Tryz.prog w' a y0 m p0
    have su1 := fun w' a m => run_store Tryz.prog w' a y1 m p1
    have su2 := fun w' a m => run_store Tryz.prog w' a y2 m p2
    have hsz' : w.heap.size ≤ W'.heap.size := by obtain ⟨_, _, _, _, hb⟩ := h; exact hb.size
    have hx' := hx
    generalize hxk : x.1.1.k.length = xk at hx'
    simp only [encN, hx']
    gi_wp2
    exact ⟨Kp.of_os (Os.alloc W'.heap.size W' _) (by omega) fun k o hk _ => (Os.alloc W'.heap.size W' _).same k o hk (.inl (Array.getElem?_eq_some_iff.1 hk).1), W'.heap.size, y0, y1, y2, yba, ycap, ⟨rfl, rfl, rfl, rfl, rfl⟩, p0, p1, by simpa using hsp, rfl, World.alloc_heap_new W' _, h.os (Os.alloc w.heap.size W' _) (Nat.le_refl _)⟩
  case body =>
    rintro l2 ys x a1 W' ⟨Bx, y0, y1, y2, yba, ycap, hx, p0, p1, hsp, rfl, hbx, rv, hrv, hown, hne, hbl⟩
    obtain ⟨c0, c1, c2, c3⟩ := box4 hbx
    have hc := hrv.cell
    have hf := hrv.frozen
    by_cases hk0 : x.1.1.k.length = 0
    · rw [hk0] at hbx c3
      have hlf : leafB x.1.1 = true := by simp [leafB, hk0]
      have hcl : cell2 x.1.2 = [y0, y1] := by rw [hx]; rfl
      have hfl := flat_leaf (ys := ys) hlf
      have hll := lvs_leaf (ys := ys) hlf
      rw [hcl] at hfl
      have hlen : (lvs ys).length + 1 ≤ Go.Am.sizeE n := by
        obtain ⟨z, hz⟩ := hsp
        have h1 := congrArg List.length hz
        have h2 : (lvs ys).length ≤ ys.length := List.length_filter_le _ _
        rw [Go.Am.allE_len] at h1
        simp at h1
        omega
      have hle : w.heap.size ≤ W'.heap.size := hbl.size
      have hbm : (lvs ys).length + 1 ≤ 16777216 := by simp only [Go.Am.MB] at hbd; omega
      clear hbd
      gi_wp2_with (gi_at_builtin; refine wpListIn_append_own _ rfl _ _ 26 rfl w.heap.size 29 ti tz 2 40 Tryz.underlying26 hti htz hts htb htc (by decide) _ _ _ rfl (hown.alloc _) ⟨W'.heap.size, 0, none⟩ 1 1 [y0, y1] rfl rfl (cell_two_new _ _ _ _) (by simp [p0, p1]) (by unfold maxLen; omega) (by omega) (by simp; omega) ?_; intro v' w1 hown' hgrow _; obtain ⟨g', cap', rfl⟩ := ownsRow_succ hown'; obtain ⟨hv1, hv2, hr2, hk2, hb2⟩ := hrv.appended (by decide) hown hle (Nat.le_succ _) hown' hgrow; have hc1 := hv1.cell; have hf1 := hv1.frozen)
      refine ⟨Kp.appended hrv hown hgrow (by decide) (by decide) hk2 hb2, _, hv2, ?_, (hv2.not_row (by decide) hr2).symm, hbl.trans hb2⟩
      rw [hfl, hll, List.length_append]
      exact hr2
    · have hlf : leafB x.1.1 = false := by simp [leafB, hk0]
      have hfl := flat_no (ys := ys) hlf
      have hll := lvs_no (ys := ys) hlf
      gi_wp2
      refine ⟨Kp.refl _ _ _ _, rv, hrv, ?_, hne, hbl⟩
      rw [hfl, hll]
      exact hown
  case done =>
    rintro D ys W' hD hS ⟨rv, hrv, hown, hne, hbl⟩ hDd hkw
    have hc := hrv.cell
    have hDlt := (Array.getElem?_eq_some_iff.1 hDd).1
    gi_wp2
    exact leavesM (lo := w.heap.size) (_ :: []) W'.heap.size W' ⟨D, rfl, by omega, hDlt, hDd, trivial⟩ fun W'' ho => ⟨_, results_tmp rfl _ _ _, rv, ys, rfl, hS, owns_same hown fun k vs t fr hk => ho.same k _ hk (.inr rfl), Os.below hbl ho (Nat.le_refl _) (Nat.le_refl _)⟩
  case stop =>
    rintro D ys W' hD h
    exact h.elim
end Go.Rf
namespace Go.Rf
open Go.Proofs Go.RowKit Go.Shelf
open Go.Am (Nd VR Mu St leafB leavesE get2 Fc)
section
variable {μ : Mu} {s : St} {w : World}
theorem cell2_len (x : NVal μ s w) : (cell2 x.1.2).length = 2 := by
  obtain ⟨y0, y1, y2, yba, ycap, hx, _⟩ := vr_node x.2
  rw [hx]; rfl
theorem vr_fact (x : NVal μ s w) (j : Nat) (y : Go.Am.AV) (hy : (Go.Am.Fc.cs x.1.1.f)[j]? = some y) : ∃ u, (cell2 x.1.2)[j]? = some u ∧ VR μ s w y u := by
  obtain ⟨y0, y1, y2, yba, ycap, hx, _⟩ := vr_node x.2
  have h := x.2
  rw [hx, Nd.cs_eq] at h
  rw [hx]
  cases h with
  | agg _ _ hl h =>
    match j, hy with
    | 0, hy =>
      simp [Go.Am.Fc.cs] at hy; subst hy
      exact ⟨y0, rfl, h 0 _ _ rfl rfl⟩
    | 1, hy =>
      simp [Go.Am.Fc.cs] at hy; subst hy
      exact ⟨y1, rfl, h 1 _ _ rfl rfl⟩
theorem pair_idx {α : Type} {c : α → List Value} : ∀ (L : List α), (∀ a ∈ L, (c a).length = 2) → ∀ (i j : Nat), j < 2 → (L.flatMap c)[i * 2 + j]? = (L[i]?).bind fun a => (c a)[j]?
  | [], _, i, j, _ => by simp
  | a :: L, h, i, j, hj => by
    rw [List.flatMap_cons, List.getElem?_append]
    have ha := h a (List.mem_cons_self ..)
    cases i with
    | zero => rw [if_pos (by omega)]; simp
    | succ i =>
      rw [if_neg (by omega), ha, show (i + 1) * 2 + j - 2 = i * 2 + j by omega, pair_idx L (fun a ha => h a (List.mem_cons_of_mem _ ha)) i j hj]
      simp
theorem lvs_facts {n : Nd} {ys : List (NVal μ s w)} (h : ys.map (·.1.1) = Go.Am.allE n) : (lvs ys).map (fun x => x.1.1.f) = leavesE n := by
  unfold leavesE lvs
  rw [← h, List.filter_map, List.map_map]
  rfl
theorem vr_leaves {E : Go.Am.Env} {n : Nd} {ys : List (NVal μ s w)} {w' : World} {rv : Value} (hR : Go.Am.Rel E μ s w) (h : ys.map (·.1.1) = Go.Am.allE n) (ho : w'.ownsRow w.heap.size 29 2 rv (lvs ys).length (flat ys)) (hb : Below w.heap.size w w') :
    VR μ s w' (.sl ((leavesE n).map Go.Am.Fc.cs)) rv := by
  have hf := lvs_facts h
  have hll : ((leavesE n).map Go.Am.Fc.cs).length = (lvs ys).length := by rw [← hf]; simp
  rcases ho.2 with ⟨rfl, h0⟩ | ⟨g, cap, cur, rfl, hg, hc, hcap, _, hcs, htk⟩
  · have : (leavesE n).map Go.Am.Fc.cs = [] := List.eq_nil_of_length_eq_zero (by omega)
    rw [this]
    exact .slnil none
  · rw [← hll]
    have hgl := (Array.getElem?_eq_some_iff.1 hc).1
    have g2 : ∀ i j x, get2 ((leavesE n).map Go.Am.Fc.cs) i j = some x → i < (lvs ys).length ∧ j < 2 ∧ ∃ y u, (lvs ys)[i]? = some y ∧ (cell2 y.1.2)[j]? = some u ∧ VR μ s w x u ∧ (flat ys)[i * 2 + j]? = some u := fun i j x hx => by
      unfold get2 at hx
      rw [← hf, List.map_map, List.getElem?_map] at hx
      cases hy : (lvs ys)[i]? with
      | none => rw [hy] at hx; simp at hx
      | some y =>
        rw [hy] at hx
        have hx' : (Go.Am.Fc.cs y.1.1.f)[j]? = some x := by simpa using hx
        have hj : j < 2 := (List.getElem?_eq_some_iff.1 hx').1
        obtain ⟨u, h1, h2⟩ := vr_fact y j x hx'
        refine ⟨(List.getElem?_eq_some_iff.1 hy).1, hj, y, u, rfl, h1, h2, ?_⟩
        unfold flat
        rw [pair_idx (lvs ys) (fun a _ => cell2_len a) i j hj, hy]
        exact h1
    refine .sl _ _ _ 2 (fun i j => ((flat ys)[i * 2 + j]?).getD undef) hgl (fun id p hp e => ?_) (fun _ => rfl) (by rw [hll]; exact hcap) (fun x hx => ?_) (fun i j x hx => ?_) (fun i j x hx => ?_)
    · have := hR.block_lt hp
      rw [e] at this
      exact absurd hg (Nat.not_le.2 this)
    · obtain ⟨y, _, rfl⟩ := List.mem_map.1 hx; rfl
    · obtain ⟨hi, hj, y, u, _, _, _, hu⟩ := g2 i j x hx
      have hlt : i * 2 + j < (lvs ys).length * 2 := by omega
      have hcu : cur[i * 2 + j]? = some u := by
        rw [← htk, List.getElem?_take, if_pos hlt] at hu
        simpa using hu
      rw [show ((⟨g, 0, none⟩ : Addr).add (i * 2 + j)) = ⟨g, i * 2 + j, none⟩ by unfold Addr.add; split <;> simp_all]
      rw [hu]
      simp [World.cell?, hc, hcu]
    · obtain ⟨hi, hj, y, u, _, _, hv, hu⟩ := g2 i j x hx
      simp only [hu, Option.getD_some]
      exact hv.mono (Go.Am.Fr.below (n0 := 0) (W := fun _ => False) hR hb)
end
open Go.Am in
theorem _root_.Go.Am.ft_Leaves {K : Nat} {gw : World} {s : St} (n : Nd) (hbd : sizeE n < MB) : FT (env K gw) NoW 16 [.agg n.cs] s (.sl ((leavesE n).map Fc.cs)) s := by
  refine FT.below2 (fnOk env_P Tryz.func16 (by kernel_rfl) (by rfl)) fun μ w vs hR hv => ?_
  have h1 : vs.size = 1 := by rw [← hv.1]; rfl
  obtain ⟨v, rfl⟩ : ∃ v, vs = #[v] := ⟨vs[0], Array.ext (by simpa using h1) (fun i h1 h2 => by simp at h2; subst h2; rfl)⟩
  refine (callsIn_wide.1 (Rf.Leaves_in n hbd v (hv.2 0 _ v rfl rfl))).mono fun e w' h => ?_
  obtain ⟨rv, ys, h1, h2, h3, h4⟩ := h
  exact ⟨rv, h1, vr_leaves hR h2 h3 h4, h4⟩
end Go.Rf
