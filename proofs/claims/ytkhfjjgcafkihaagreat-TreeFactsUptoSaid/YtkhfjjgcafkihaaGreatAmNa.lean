/- Part of the proof: abstract values over the given model of Go (N1, N2, N3). Conditions: none of its own; see the statement in the seat's Rows text. -/
import Derived.Test.YtkhfjjgcafkihaaGreatAmUa
import Derived.Test.YtkhfjjgcafkihaaGreatAmSix
import Derived.Shelf.Abstract
import Derived.Shelf.RegionOpen
import Derived.WalkKit
import Derived.OwnWalkIn
import Derived.TacticsInMore
import Derived.LoopNIn
import Derived.LoopIn
import Derived.Test.YtkhfjjgcafkihaaGreatAmUe
set_option linter.unusedSimpArgs false
set_option linter.unusedVariables false
set_option linter.unusedSectionVars false
namespace Go.Rf
open Go.Proofs Go.RowKit Go.Shelf
attribute [local go_sem] Oper.semAt_some
set_option maxHeartbeats 1000000 in
theorem nodes_in (v0 v1 v2 v3 : Value) (w : World) : CallsIn Fence.wide 0 Tryz.prog 28 #[.agg #[v0, v1, v2, v3]] w fun e w' => e = .returned (.func (.func 52) #[] #[.pointer (some ⟨w.heap.size, 0, none⟩)]) ∧ w' = w.alloc (.cells #[v0, v1, v2, v3] 34) := by
  refine callsIn_of_wp Tryz.func28 rfl trivial ?_ rfl
  simp only [Tryz.ntmps28, List.size_toArray, List.length_cons, List.length_nil, Nat.reduceAdd, Nat.reduceSub, Array.replicate_succ, Array.replicate_zero, List.push_toArray, List.append_toArray, List.nil_append, List.cons_append]
  gi_wp2
  go_ret
  exact ⟨rfl, rfl⟩
end Go.Rf
namespace Go.Rf
open Go.Proofs Go.RowKit Go.Shelf
attribute [local go_sem] Oper.semAt_some
open Go.Am (Nd VR Mu St)
/-- A node's value, read. -/
theorem vr_node {μ : Mu} {s : St} {w : World} {n : Nd} {v : Value} (h : VR μ s w (.agg n.cs) v) :
    ∃ v0 v1 v2 a cap, v = .agg #[v0, v1, v2, .slice a n.k.length cap] ∧ n.k.length ≤ cap ∧ (v0.oneCell' = true ∧ v1.oneCell' = true ∧ v2.oneCell' = true) ∧
      ∀ i c, n.k[i]? = some c → ∃ ad : Addr, a = some ad ∧ ad.block < w.heap.size ∧ ad.spot = none ∧ ∃ u0 u1 u2 u3, w.cell? (ad.add (i * 4)) = some u0 ∧ w.cell? (ad.add (i * 4 + 1)) = some u1 ∧ w.cell? (ad.add (i * 4 + 2)) = some u2 ∧ w.cell? (ad.add (i * 4 + 3)) = some u3 ∧ VR μ s w (.agg c.cs) (.agg #[u0, u1, u2, u3]) := by
  rw [Nd.cs_eq] at h
  cases h with
  | agg _ vs hl h =>
  have hs : vs.size = 4 := by rw [← hl]; rfl
  obtain ⟨v0, v1, v2, v3, rfl⟩ : ∃ v0 v1 v2 v3, vs = #[v0, v1, v2, v3] := ⟨vs[0], vs[1], vs[2], vs[3], Array.ext (by simpa using hs) (fun i h1 h2 => by
    simp at h2
    match i, h2 with
    | 0, _ => rfl
    | 1, _ => rfl
    | 2, _ => rfl
    | 3, _ => rfl)⟩
  have h0 := h 0 _ _ rfl rfl
  have h1 := h 1 _ _ rfl rfl
  have h2 := h 2 _ _ rfl rfl
  have h3 := h 3 _ _ rfl rfl
  have o0 : v0.oneCell' = true := h0.oneCell rfl
  have o1 : v1.oneCell' = true := h1.oneCell rfl
  have o2 : v2.oneCell' = true := h2.oneCell rfl
  generalize hX : n.k.map Nd.cs = X at h3
  cases h3 with
  | slnil a =>
    have hk : n.k = [] := by simpa using hX
    rw [hk]
    exact ⟨v0, v1, v2, a, 0, rfl, Nat.le_refl _, ⟨o0, o1, o2⟩, fun i c hc => by simp at hc⟩
  | sl _ a cap sz us hb hm hsp hcap hsz hc hv =>
    have hlen : X.length = n.k.length := by rw [← hX]; simp
    refine ⟨v0, v1, v2, some a, cap, by rw [hlen], by rw [← hlen]; exact hcap, ⟨o0, o1, o2⟩, fun i c hic => ⟨a, rfl, hb, hsp ?_, ?_⟩⟩
    · intro e
      rw [e] at hlen
      have := (List.getElem?_eq_some_iff.1 hic).1
      simp at hlen; omega
    · have hx : X[i]? = some c.cs := by rw [← hX, List.getElem?_map, hic]; rfl
      have hs4 : sz = 4 := by
        have := hsz c.cs (List.mem_of_getElem? hx)
        rw [← this]; exact Nd.len c
      subst hs4
      have g2 : ∀ j x, c.cs[j]? = some x → Go.Am.get2 X i j = some x := fun j x hj => by simp [Go.Am.get2, hx, hj]
      have hcs := Nd.cs_eq c
      have k0 := hc i 0 _ (g2 0 _ (by rw [hcs]; rfl))
      have k1 := hc i 1 _ (g2 1 _ (by rw [hcs]; rfl))
      have k2 := hc i 2 _ (g2 2 _ (by rw [hcs]; rfl))
      have k3 := hc i 3 _ (g2 3 _ (by rw [hcs]; rfl))
      refine ⟨us i 0, us i 1, us i 2, us i 3, k0, k1, k2, k3, ?_⟩
      refine .agg _ _ (by rw [Nd.len]; rfl) fun j x u hj hu => ?_
      have hjl := (List.getElem?_eq_some_iff.1 hj).1
      rw [Nd.len] at hjl
      have := hv i j x (g2 j x hj)
      match j, hjl, hu with
      | 0, _, hu => simp at hu; subst hu; exact this
      | 1, _, hu => simp at hu; subst hu; exact this
      | 2, _, hu => simp at hu; subst hu; exact this
      | 3, _, hu => simp at hu; subst hu; exact this
abbrev NT (t : TypeId) : Prop := t = 34 ∨ t = 98
abbrev NVal (μ : Mu) (s : St) (w : World) := { p : Nd × Value // VR μ s w (.agg p.1.cs) p.2 }
def encN {μ : Mu} {s : St} {w : World} (x : NVal μ s w) : Array Value := #[x.1.2]
theorem box4 {W : World} {B : Nat} {v0 v1 v2 v3 : Value} {t : TypeId} (h : W.heap[B]? = some (.cells #[v0, v1, v2, v3] t (0, 0))) : W.cell? ⟨B, 0, none⟩ = some v0 ∧ W.cell? ⟨B, 1, none⟩ = some v1 ∧ W.cell? ⟨B, 2, none⟩ = some v2 ∧ W.cell? ⟨B, 3, none⟩ = some v3 := by
  refine ⟨?_, ?_, ?_, ?_⟩ <;> simp [World.cell?, h]
theorem box1 {W : World} {B : Nat} {v : Value} {t : TypeId} (h : W.heap[B]? = some (.cells #[v] t (0, 0))) : W.cell? ⟨B, 0, none⟩ = some v := by
  simp [World.cell?, h]
/-- The marks of the loops that are over. -/
def MarksAt (lo : Nat) (W : World) : List Deferred → Nat → Prop
  | [], _ => True
  | d :: ds, hi => ∃ D, d = { target := .collected D, args := #[] } ∧ lo ≤ D ∧ D < hi ∧ W.heap[D]? = some (.deferred (some [])) ∧ MarksAt lo W ds D
theorem MarksAt.mono {lo : Nat} {W W' : World} (h : ∀ (k : Nat) (o : Obj), lo ≤ k → W.heap[k]? = some o → o.isCells = false → W'.heap[k]? = some o) : ∀ {ds : List Deferred} {hi hi' : Nat}, hi ≤ hi' → MarksAt lo W ds hi → MarksAt lo W' ds hi'
  | [], _, _, _, _ => trivial
  | d :: ds, hi, hi', hh, ⟨D, h1, h2, h3, h4, h5⟩ => ⟨D, h1, h2, by omega, h D _ h2 h4 rfl, MarksAt.mono h (Nat.le_refl _) h5⟩
theorem MarksAt.put {lo : Nat} {W : World} {l : Nat} (o : Obj) : ∀ {ds : List Deferred} {hi : Nat}, hi ≤ l → MarksAt lo W ds hi → MarksAt lo (W.putObj l o) ds hi
  | [], _, _, _ => trivial
  | d :: ds, hi, hh, ⟨D, h1, h2, h3, h4, h5⟩ => ⟨D, h1, h2, h3, (World.putObj_heap_other (by omega)).trans h4, MarksAt.put o (by omega) h5⟩
theorem leavesM {P : Program} {fn : Func} {tmps : Array Value} {R : Ending → World → Prop} {lo : Nat} : ∀ (ds : List Deferred) (hi : Nat) (W : World), MarksAt lo W ds hi →
    (∀ W', Os lo W W' → ∃ v, (results fn tmps).run P W' = .ok v W' ∧ R (.returned v) W') → LeavesInM Fence.wide 0 P fn tmps R ds .returning W
  | [], hi, W, _, h => h W (Os.refl _ _)
  | d :: ds, hi, W, ⟨D, h1, h2, h3, h4, h5⟩, h => by
    subst h1
    refine ⟨by simp, .inl ⟨D, _, rfl, run_takeDeferred h4, ?_⟩⟩
    exact leavesM ds D _ (h5.put _ (Nat.le_refl _)) fun W' ho => h W' ((Os.put _ h4 rfl h2).trans ho)
def idx13 (a : Act) : Nat := match a.tmps.getD 13 undef with
  | .int _ i => i.toNat
  | _ => 0
theorem idx13_mk (x0 x1 x2 x3 x4 x5 x6 x7 x8 x9 x10 x11 x12 x14 x15 x16 x17 x18 x19 x20 x21 x22 x23 x24 : Value) (x : Int) (ds : List Deferred) : idx13 { tmps := #[x0, x1, x2, x3, x4, x5, x6, x7, x8, x9, x10, x11, x12, .int .i64 x, x14, x15, x16, x17, x18, x19, x20, x21, x22, x23, x24], defers := ds } = x.toNat := rfl
set_option maxRecDepth 20000 in
set_option maxHeartbeats 4000000 in
theorem nodes1 {μ : Mu} {s : St} {w : World} (n : Nd) : Go.Am.sizeE n < Go.Am.MB → ∀ (v : Value) (hv : VR μ s w (.agg n.cs) v) (B : Nat) (w1 : World) (v0 v1 v2 v3 : Value), v = .agg #[v0, v1, v2, v3] → Below w.heap.size w w1 → w1.heap[B]? = some (.cells #[v0, v1, v2, v3] 34 (0, 0)) →
    Iter Tryz.prog 52 #[.pointer (some ⟨B, 0, none⟩)] (encN (μ := μ) (s := s) (w := w)) w.heap.size NT (fun ys => ys.map (·.1.1) <+: Go.Am.allE n) (fun ys => ys.map (·.1.1) = Go.Am.allE n) w1 := by
  induction n using Nd.ind with
  | h n ih =>
  intro hbd v hv B w1 v0 v1 v2 v3 he hb1 hB l J Jx W hK hsz hl hnl hJ hJx hY h0
  subst he
  obtain ⟨u0, u1, u2, ba, cap, hu, hcap, _, hkids⟩ := vr_node hv
  obtain ⟨rfl, rfl, rfl, rfl⟩ : v0 = u0 ∧ v1 = u1 ∧ v2 = u2 ∧ v3 = .slice ba n.k.length cap := by simpa using hu
  clear hu
  have hBW := hK.cells B _ _ _ (.inl rfl) hB
  have c4 := box4 hBW
  refine callsIn_of_wp_marks Tryz.func52 rfl trivial ?_ rfl
  simp only [Tryz.ntmps52, List.size_toArray, List.length_cons, List.length_nil, Nat.reduceAdd, Nat.reduceSub, Array.replicate_succ, Array.replicate_zero, List.push_toArray, List.append_toArray, List.nil_append, List.cons_append]
  have hy1 := hY [] ⟨(n, .agg #[v0, v1, v2, .slice ba n.k.length cap]), hv⟩ (W.alloc (.cells #[.func (.yield l) #[] #[]] 98)) ⟨Go.Am.allL n.k, by rw [Go.Am.allE_eq]; rfl⟩ (hJ _ _ _ h0 (Os.alloc _ _ _))
  obtain ⟨fn1, tm1, as1, bd1, hy, hR⟩ := hy1
  simp only [encN] at hy
  have cy : (W.alloc (.cells #[.func (.yield l) #[] #[]] 98)).cell? ⟨W.heap.size, 0, none⟩ = some (.func (.yield l) #[] #[]) := box1 (World.alloc_heap_new W _)
  have hYW : (W.alloc (.cells #[.func (.yield l) #[] #[]] 98)).heap[W.heap.size]? = some (.cells #[.func (.yield l) #[] #[]] 98 (0, 0)) := World.alloc_heap_new W _
  have hBW2 : (W.alloc (.cells #[.func (.yield l) #[] #[]] 98)).heap[B]? = some (.cells #[v0, v1, v2, .slice ba n.k.length cap] 34 (0, 0)) := (Below.heap_alloc _ _ _ (Array.getElem?_eq_some_iff.1 hBW).1).trans hBW
  have hbW : Below w.heap.size w W := hb1.trans hK.below
  have hbY : Below w.heap.size w (W.alloc (.cells #[.func (.yield l) #[] #[]] 98)) := hbW.alloc hbW.size _
  have hKY : Kp w.heap.size NT l W (W.alloc (.cells #[.func (.yield l) #[] #[]] 98)) := Kp.of_os (Os.alloc W.heap.size W _) hbW.size fun k o hk _ => (Os.alloc W.heap.size W _).same k o hk (.inl (Array.getElem?_eq_some_iff.1 hk).1)
  have hszY : (W.alloc (.cells #[.func (.yield l) #[] #[]] 98)).heap.size = W.heap.size + 1 := by simp
  obtain ⟨d0, d1, d2, d3⟩ := box4 hBW2
  gi_wp2
  refine ⟨rfl, hR.mono ?_⟩
  clear hR hy
  rintro e W2 (⟨rfl, hJ2, hk2⟩ | ⟨rfl, hx2⟩)
  · have hB2 := hk2.cells B _ _ _ (.inl rfl) hBW2
    obtain ⟨e0, e1, e2, e3⟩ := box4 hB2
    gi_wp2
    refine wpIn_loop (fun a wr => ∃ (i : Nat) (pre : List (NVal μ s w)) (ds : List Deferred) (x4 x14 x15 x16 x17 x18 x24 : Value), i ≤ n.k.length ∧
        a = { tmps := #[.func (.yield l) #[] #[], .pointer (some ⟨B, 0, none⟩), .pointer (some ⟨W.heap.size, 0, none⟩), undef, x4, undef, .func (.yield l) #[] #[], .agg #[v0, v1, v2, .slice ba n.k.length cap], .bool true, .bool false, .pointer (some ⟨B, 3, none⟩), .slice ba n.k.length cap, .int .i64 n.k.length, .int .i64 i, x14, x15, x16, x17, x18, undef, undef, undef, undef, undef, x24], defers := ds } ∧
        pre.map (·.1.1) = n :: Go.Am.allL (n.k.take i) ∧ J pre wr ∧ Kp w.heap.size NT l (W.alloc (.cells #[.func (.yield l) #[] #[]] 98)) wr ∧ MarksAt W.heap.size wr ds wr.heap.size)
      (fun a _ => n.k.length - idx13 a) ?_ ?_
    · refine ⟨0, _, [], undef, undef, undef, undef, undef, undef, undef, Nat.zero_le _, rfl, ?_, hJ2, hk2, trivial⟩
      simp [Go.Am.allL]
    · rintro a wr ⟨i, pre, ds, x4, x14, x15, x16, x17, x18, x24, hi, rfl, hpre, hJr, hkr, hmk⟩
      by_cases hlt : i < n.k.length
      · have hci : n.k[i]? = some n.k[i] := List.getElem?_eq_getElem hlt
        obtain ⟨⟨ab, ao, asp⟩, rfl, hadb, hads, t0, t1, t2, t3, k0, k1, k2, k3, hvk⟩ := hkids i _ hci
        simp only at hads hadb
        subst hads
        have hbr : Below w.heap.size w wr := hbY.trans hkr.below
        have addm : ∀ m, (⟨ab, ao, none⟩ : Addr).add m = ⟨ab, ao + m, none⟩ := fun m => by
          unfold Addr.add
          split
          · rename_i h; subst h; rfl
          · rfl
        rw [addm] at k0 k1 k2 k3
        have q0 := (hbr.cell (p := ⟨ab, ao + i * 4, none⟩) hadb).trans k0
        have q1 := (hbr.cell (p := ⟨ab, ao + (i * 4 + 1), none⟩) hadb).trans k1
        have q2 := (hbr.cell (p := ⟨ab, ao + (i * 4 + 2), none⟩) hadb).trans k2
        have q3 := (hbr.cell (p := ⟨ab, ao + (i * 4 + 3), none⟩) hadb).trans k3
        rw [← Nat.add_assoc] at q1 q2 q3
        clear k0 k1 k2 k3
        obtain ⟨t0', t1', t2', kba, kcap, hku, hkcap, ⟨o0, o1, o2⟩, _⟩ := vr_node hvk
        obtain ⟨rfl, rfl, rfl, rfl⟩ : t0 = t0' ∧ t1 = t1' ∧ t2 = t2' ∧ t3 = .slice kba n.k[i].k.length kcap := by simpa using hku
        clear hku
        have nw := box4 (World.alloc_heap_new wr (.cells #[Value.string { data := #[] }, Value.slice none 0 0, Value.int IntKind.i64 0, Value.slice none 0 0] 34))
        obtain ⟨nw0, nw1, nw2, nw3⟩ := nw
        have st0 := fun w' a m => run_store Tryz.prog w' a t0 m o0
        have st1 := fun w' a m => run_store Tryz.prog w' a t1 m o1
        have st2 := fun w' a m => run_store Tryz.prog w' a t2 m o2
        gi_wp2
        refine ⟨trivial, rfl, (nodes_in _ _ _ _ _).mono ?_⟩
        rintro e w' ⟨rfl, rfl⟩
        gi_wp2
        generalize hW3 : (wr.alloc (.cells #[t0, t1, t2, .slice kba n.k[i].k.length kcap] 34)).alloc (.cells #[t0, t1, t2, .slice kba n.k[i].k.length kcap] 34) = W3
        have hW3s : W3.heap.size = wr.heap.size + 1 + 1 := by rw [← hW3]; simp
        have hos3 : Os wr.heap.size wr W3 := by rw [← hW3]; exact (Os.alloc _ _ _).trans (Os.alloc _ _ _)
        have hszr : W.heap.size < wr.heap.size := by have := hkr.below.size; omega
        have hn0 : w.heap.size ≤ W.heap.size := hbW.size
        have hK3 : Kp w.heap.size NT l wr W3 := Kp.of_os hos3 (by omega) fun k o hk _ => hos3.same k o hk (.inl (Array.getElem?_eq_some_iff.1 hk).1)
        have hbox : W3.heap[wr.heap.size + 1]? = some (.cells #[t0, t1, t2, .slice kba n.k[i].k.length kcap] 34 (0, 0)) := by
          rw [← hW3]
          have := World.alloc_heap_new (wr.alloc (.cells #[t0, t1, t2, .slice kba n.k[i].k.length kcap] 34)) (.cells #[t0, t1, t2, .slice kba n.k[i].k.length kcap] 34)
          rwa [World.size_alloc] at this
        have hK3l := hkr.trans hK3
        have hyb : ∀ W', Kp w.heap.size NT l W3 W' → W'.cell? ⟨W.heap.size, 0, none⟩ = some (.func (.yield l) #[] #[]) := fun W' hk => box1 ((hK3l.trans hk).cells _ _ _ _ (.inr rfl) hYW)
        refine range_law (hg := rfl) (eg := enters_of Tryz.func52 (by kernel_rfl) rfl) (n₀ := w.heap.size) (l₀ := l) (tp := NT) (encs := encN)
          (hit := ih _ (List.getElem_mem hlt) (by have h1 := Go.Am.sizeL_mem (List.getElem_mem hlt); have h2 := Go.Am.sizeE_eq n; omega) _ hvk (wr.heap.size + 1) W3 t0 t1 t2 _ rfl (hbr.trans hK3.below) hbox) (by omega) (by omega) (fun x => rfl)
          (I := fun ys W' => J (pre ++ ys) W' ∧ Kp w.heap.size NT l W3 W') (Ix := fun ys W' => Jx (pre ++ ys) W' ∧ Kp w.heap.size NT l W3 W')
          (M := fun ys x a1 W' => ∃ Bx y0 y1 y2 y3, x.1.2 = .agg #[y0, y1, y2, y3] ∧ a1 = { tmps := #[.func (.yield l) #[] #[], .pointer (some ⟨B, 0, none⟩), .pointer (some ⟨W.heap.size, 0, none⟩), undef, .pointer (some ⟨wr.heap.size, 0, none⟩), .pointer (some ⟨Bx, 0, none⟩), .func (.yield l) #[] #[], .agg #[v0, v1, v2, .slice (some ⟨ab, ao, none⟩) n.k.length cap], .bool true, .bool false, .pointer (some ⟨B, 3, none⟩), .slice (some ⟨ab, ao, none⟩) n.k.length cap, .int .i64 n.k.length, .int .i64 i, .bool true, .pointer (some ⟨ab, ao + i * 4, none⟩), .agg #[t0, t1, t2, .slice kba n.k[i].k.length kcap], .agg #[t0, t1, t2, .slice kba n.k[i].k.length kcap], .func (.func 52) #[] #[.pointer (some ⟨wr.heap.size + 1, 0, none⟩)], x.1.2, undef, undef, undef, undef, x24], defers := [] } ∧
            W'.heap[Bx]? = some (.cells #[y0, y1, y2, y3] 34 (0, 0)) ∧ (ys ++ [x]).map (·.1.1) <+: Go.Am.allE n.k[i] ∧ J (pre ++ ys) W' ∧ Kp w.heap.size NT l W3 W')
          ?hI ?hIx ?h0 ?hM ?assign ?body ?done ?stop
        case hI => exact fun ys W' W'' h ho => ⟨hJ _ _ _ h.1 (ho.mono (by omega)), h.2.os ho (Nat.le_refl _) (by omega)⟩
        case hIx => exact fun ys W' W'' h ho => ⟨hJx _ _ _ h.1 (ho.mono (by omega)), h.2.os ho (Nat.le_refl _) (by omega)⟩
        case h0 => exact ⟨by rw [List.append_nil]; exact hJ _ _ _ hJr (hos3.mono (by omega)), Kp.refl _ _ _ _⟩
        case hM =>
          rintro ys x a1 W' W'' ⟨Bx, y0, y1, y2, y3, hx, rfl, h1, hsp, h2, h3⟩ ho
          exact ⟨Bx, y0, y1, y2, y3, hx, rfl, ho.same _ _ h1 (.inr rfl), hsp, hJ _ _ _ h2 (ho.mono (by omega)), h3.os ho (Nat.le_refl _) (by omega)⟩
        case assign =>
          rintro l2 ys x W' hsp ⟨hj, hk⟩
          obtain ⟨y0, y1, y2, yba, ycap, hx, _, ⟨p0, p1, p2⟩, _⟩ := vr_node x.2
          have nw := box4 (World.alloc_heap_new W' (.cells #[Value.string { data := #[] }, Value.slice none 0 0, Value.int IntKind.i64 0, Value.slice none 0 0] 34))
          obtain ⟨nw0, nw1, nw2, nw3⟩ := nw
          have su0 := fun w' a m => run_store Tryz.prog w' a y0 m p0
          have su1 := fun w' a m => run_store Tryz.prog w' a y1 m p1
          have su2 := fun w' a m => run_store Tryz.prog w' a y2 m p2
          have hszk := hk.below.size
          generalize hxk : x.1.1.k.length = xk at hx
          simp only [encN, hx]
          gi_wp2
          refine ⟨Kp.of_os (Os.alloc W'.heap.size W' _) (by omega) fun k o hk _ => (Os.alloc W'.heap.size W' _).same k o hk (.inl (Array.getElem?_eq_some_iff.1 hk).1), W'.heap.size, y0, y1, y2, _, ⟨rfl, rfl, rfl, rfl⟩, rfl, World.alloc_heap_new W' _, (by simpa using hsp), hJ _ _ _ hj (Os.alloc _ _ _), hk.os (Os.alloc W3.heap.size W' _) (Nat.le_refl _) (by omega)⟩
        case body =>
          rintro l2 ys x a1 W' ⟨Bx, y0, y1, y2, y3, hx, rfl, hbx, hsp, hj, hk⟩
          have yb := hyb W' hk
          obtain ⟨b0, b1, b2, b3⟩ := box4 hbx
          obtain ⟨fn2, tm2, as2, bd2, hy2, hR2⟩ := hY _ x W' (by
            obtain ⟨z, hz⟩ := hsp
            refine ⟨z ++ Go.Am.allL (n.k.drop (i + 1)), ?_⟩
            rw [List.append_assoc pre, List.map_append, hpre, Go.Am.allE_eq n, ← Go.Am.allL_split hlt, ← hz]
            simp) hj
          simp only [encN, hx] at hy2
          gi_wp2
          refine ⟨rfl, RoundIn.mono (F := Fence.wide.inRound l2) hR2 ?_⟩
          clear hR2 hy2
          rintro e W'' (⟨rfl, hj2, hk2⟩ | ⟨rfl, hj2, hk2⟩)
          · gi_wp2
            exact ⟨hk2, by rw [← List.append_assoc]; exact hj2, hk.trans hk2⟩
          · gi_wp2
            exact ⟨hk2, by rw [← List.append_assoc]; exact hj2, hk.trans hk2⟩
        case done =>
          rintro D ys W' hD hS ⟨hj, hk⟩ hDd hkw
          have hmk' : MarksAt W.heap.size W' ds D := hmk.mono (fun k o hlo hk1 ho => (hK3.trans hk).rest k o (by omega) hk1 ho) (by omega)
          have hDlt := (Array.getElem?_eq_some_iff.1 hDd).1
          have hlen := Go.Am.len_sizeL n.k
          have hse := Go.Am.sizeE_eq n
          gi_wp2
          have hwr : wrap64 ((i : Int) + 1) = ((i + 1 : Nat) : Int) := by simp only [Go.Am.MB] at hbd; unfold wrap64; omega
          refine ⟨⟨i + 1, pre ++ ys, _ :: ds, (.pointer (some ⟨wr.heap.size, 0, none⟩)), (.bool true), (.pointer (some ⟨ab, ao + i * 4, none⟩)), (.agg #[t0, t1, t2, .slice kba n.k[i].k.length kcap]), (.agg #[t0, t1, t2, .slice kba n.k[i].k.length kcap]), (.func (.func 52) #[] #[.pointer (some ⟨wr.heap.size + 1, 0, none⟩)]), (.int .i64 ((i + 1 : Nat) : Int)), hlt, by rw [hwr], by rw [List.map_append, hpre, hS, Go.Am.allL_take hlt, List.cons_append], hj, hK3l.trans hk, ⟨D, rfl, by omega, hDlt, hDd, hmk'⟩⟩, ?_⟩
          rw [idx13_mk, idx13_mk, hwr, Int.toNat_natCast, Int.toNat_natCast]
          exact Nat.sub_lt_sub_left hlt (Nat.lt_succ_self i)
        case stop =>
          rintro D ys W' hD ⟨hj, hk⟩ hDd
          have hmk' : MarksAt W.heap.size W' ds D := hmk.mono (fun k o hlo hk1 ho => (hK3.trans hk).rest k o (by omega) hk1 ho) (by omega)
          have hDlt := (Array.getElem?_eq_some_iff.1 hDd).1
          gi_wp2
          exact leavesM (_ :: ds) W'.heap.size W' ⟨D, rfl, by omega, hDlt, hDd, hmk'⟩ fun W'' ho => ⟨_, results_none rfl _ _ _, ⟨_, rfl⟩, .inr ⟨pre ++ ys, hJx _ _ _ hj ho⟩⟩
      · gi_wp2
        have he : n.k.take i = n.k := List.take_of_length_le (by omega)
        rw [he, ← Go.Am.allE_eq] at hpre
        refine leavesM ds _ wr hmk fun W' ho => ⟨_, results_none rfl _ _ _, ⟨_, rfl⟩, .inl ⟨pre, hpre, hJ _ _ _ hJr ho, (hKY.trans hkr).os ho (Nat.le_refl _) hbW.size⟩⟩
  · gi_wp2
    exact leavesM [] 0 W2 trivial fun W' ho => ⟨_, results_none rfl _ _ _, ⟨_, rfl⟩, .inr ⟨_, hJx _ _ _ hx2.1 ho⟩⟩
end Go.Rf
namespace Go.Rf
open Go.Proofs Go.RowKit Go.Shelf
attribute [local go_sem] Oper.semAt_some
open Go.Am (Nd VR Mu St)
theorem Os.below {n₀ B : Nat} {w W W' : World} (h : Below n₀ w W) (ho : Os B W W') (hn : n₀ ≤ w.heap.size) (hB : n₀ ≤ B) : Below n₀ w W' :=
  h.trans ⟨ho.os, ho.tape, ho.output, ho.size, fun k hk => by
    have hlt : k < W.heap.size := by have := h.size; omega
    rw [ho.same k _ (Array.getElem?_eq_getElem hlt) (.inl (by omega)), Array.getElem?_eq_getElem hlt]⟩
theorem Kp.set {n₀ l₀ B : Nat} {W : World} {t : TypeId} {v : Value} (h : Boxed W B t v) (v' : Value) (hB : n₀ ≤ B) (ht : ¬ NT t) : Kp n₀ NT l₀ W (W.setCell ⟨B, 0, none⟩ v') := by
  refine ⟨(Below.refl n₀ W).setCell (p := ⟨B, 0, none⟩) hB _, fun k vs t' fr ht' hk => ?_, fun k o _ hk ho => ?_⟩
  · by_cases e : k = B
    · subst e
      rw [show W.heap[k]? = some (.cells #[v] t (0, 0)) from h] at hk
      cases hk
      exact absurd ht' ht
    · exact (Below.heap_setCell W ⟨B, 0, none⟩ v' k e).trans hk
  · by_cases e : k = B
    · subst e
      rw [show W.heap[k]? = some (.cells #[v] t (0, 0)) from h] at hk
      cases hk
      cases ho
    · exact (Below.heap_setCell W ⟨B, 0, none⟩ v' k e).trans hk
theorem wrap_idem (a : Int) : wrap64 (wrap64 a) = wrap64 a := by unfold wrap64; omega
theorem wrap_succ (a : Int) : wrap64 (wrap64 a + 1) = wrap64 (a + 1) := by unfold wrap64; omega
set_option maxRecDepth 20000 in
set_option maxHeartbeats 4000000 in
theorem Size_in {μ : Mu} {s : St} {w : World} (n : Nd) (hbd : Go.Am.sizeE n < Go.Am.MB) (v : Value) (hv : VR μ s w (.agg n.cs) v) :
    CallsIn Fence.wide 0 Tryz.prog 11 #[v] w fun e w' => e = .returned (.int .i64 (Go.Am.sizeE n)) ∧ Below w.heap.size w w' := by
  obtain ⟨v0, v1, v2, ba, cap, rfl, hcap, ⟨o0, o1, o2⟩, hkids⟩ := vr_node hv
  refine callsIn_of_wp_marks Tryz.func11 rfl trivial ?_ rfl
  simp only [Tryz.ntmps11, List.size_toArray, List.length_cons, List.length_nil, Nat.reduceAdd, Nat.reduceSub, Array.replicate_succ, Array.replicate_zero, List.push_toArray, List.append_toArray, List.nil_append, List.cons_append]
  have hB := World.alloc_heap_new w (.cells #[v0, v1, v2, .slice ba n.k.length cap] 34)
  obtain ⟨b0, b1, b2, b3⟩ := box4 hB
  gi_wp2
  refine ⟨trivial, rfl, (nodes_in _ _ _ _ _).mono ?_⟩
  rintro e w' ⟨rfl, rfl⟩
  gi_wp2
  generalize hW3 : ((w.alloc (.cells #[v0, v1, v2, .slice ba n.k.length cap] 34)).alloc (.cells #[.int .i64 0] 3)).alloc (.cells #[v0, v1, v2, .slice ba n.k.length cap] 34) = W3
  have hs3 : W3.heap.size = w.heap.size + 1 + 1 + 1 := by rw [← hW3]; simp
  have hb3 : Below w.heap.size w W3 := by rw [← hW3]; exact (((Below.refl _ w).alloc (Nat.le_refl _) _).alloc (by simp) _).alloc (by simp only [World.size_alloc]; omega) _
  have hbox : W3.heap[w.heap.size + 1 + 1]? = some (.cells #[v0, v1, v2, .slice ba n.k.length cap] 34 (0, 0)) := by
    rw [← hW3]
    have := World.alloc_heap_new ((w.alloc (.cells #[v0, v1, v2, .slice ba n.k.length cap] 34)).alloc (.cells #[.int .i64 0] 3)) (.cells #[v0, v1, v2, .slice ba n.k.length cap] 34)
    rwa [World.size_alloc, World.size_alloc] at this
  have hcnt : Boxed W3 (w.heap.size + 1) 3 (.int .i64 0) := by
    rw [← hW3]
    have := Boxed.new (w.alloc (.cells #[v0, v1, v2, .slice ba n.k.length cap] 34)) 3 (.int .i64 0)
    rw [World.size_alloc] at this
    exact this.alloc _
  refine range_law (hg := rfl) (eg := enters_of Tryz.func52 (by kernel_rfl) rfl) (n₀ := w.heap.size) (l₀ := w.heap.size) (tp := NT) (encs := encN (μ := μ) (s := s) (w := w))
    (hit := nodes1 n hbd _ hv (w.heap.size + 1 + 1) W3 v0 v1 v2 _ rfl hb3 hbox) (by omega) (by omega) (fun x => rfl)
    (I := fun ys W' => Boxed W' (w.heap.size + 1) 3 (.int .i64 (wrap64 ys.length)) ∧ Below w.heap.size w W') (Ix := fun _ _ => False)
    (M := fun ys x a1 W' => a1 = { tmps := #[.agg #[v0, v1, v2, .slice ba n.k.length cap], .pointer (some ⟨w.heap.size, 0, none⟩), .int .i64 0, .pointer (some ⟨w.heap.size + 1, 0, none⟩), .agg #[v0, v1, v2, .slice ba n.k.length cap], .func (.func 52) #[] #[.pointer (some ⟨w.heap.size + 1 + 1, 0, none⟩)], x.1.2, undef, undef, undef], defers := [] } ∧ Boxed W' (w.heap.size + 1) 3 (.int .i64 (wrap64 ys.length)) ∧ Below w.heap.size w W')
    ?hI ?hIx ?h0 ?hM ?assign ?body ?done ?stop
  case hI => exact fun ys W' W'' h ho => ⟨ho.same _ _ h.1 (.inr rfl), Os.below h.2 ho (Nat.le_refl _) (by omega)⟩
  case hIx => exact fun ys W' W'' h ho => h
  case h0 => exact ⟨by simpa [wrap64] using hcnt, hb3⟩
  case hM =>
    rintro ys x a1 W' W'' ⟨rfl, h1, h2⟩ ho
    exact ⟨rfl, ho.same _ _ h1 (.inr rfl), Os.below h2 ho (Nat.le_refl _) (by omega)⟩
  case assign =>
    rintro l2 ys x W' hsp ⟨h1, h2⟩
    simp only [encN]
    have h3 := Kp.refl w.heap.size NT w.heap.size W'
    gi_wp2
    try exact ⟨h3, h1, h2⟩
  case body =>
    rintro l2 ys x a1 W' ⟨rfl, h1, h2⟩
    have hc := h1.cell
    have hf := h1.frozen
    gi_wp2
    have e1 : wrap64 (wrap64 (ys.length : Int) + 1) = wrap64 (((ys ++ [x]).length : Nat) : Int) := by rw [wrap_succ]; simp
    refine ⟨Kp.set h1 _ (by omega) (by decide), ?_, h2.setCell (p := ⟨w.heap.size + 1, 0, none⟩) (by simp) _⟩
    rw [← e1]
    exact h1.set _
  case done =>
    rintro D ys W' hD hS ⟨h1, h2⟩ hDd hkw
    have hc := h1.cell
    have hDlt := (Array.getElem?_eq_some_iff.1 hDd).1
    have hl : ys.length = Go.Am.sizeE n := by rw [← Go.Am.allE_len, ← hS, List.length_map]
    gi_wp2
    have hwl : wrap64 ((Go.Am.sizeE n : Nat) : Int) = (Go.Am.sizeE n : Int) := by simp only [Go.Am.MB] at hbd; unfold wrap64; omega
    exact leavesM (lo := w.heap.size) (_ :: []) W'.heap.size W' ⟨D, rfl, by omega, hDlt, hDd, trivial⟩ fun W'' ho => ⟨_, results_tmp rfl _ _ _, by show Ending.returned (.int .i64 (wrap64 (Go.Am.sizeE n : Int))) = _; rw [hwl], Os.below h2 ho (Nat.le_refl _) (Nat.le_refl _)⟩
  case stop =>
    rintro D ys W' hD h
    exact h.elim
open Go.Am in
theorem _root_.Go.Am.ft_Size {K : Nat} {gw : World} {s : St} (n : Nd) (hbd : sizeE n < MB) : FT (env K gw) NoW 11 [.agg n.cs] s (.int .i64 (sizeE n)) s := by
  refine FT.below (fnOk env_P Tryz.func11 (by kernel_rfl) (by rfl)) fun μ w vs hR hv => ?_
  have h1 : vs.size = 1 := by rw [← hv.1]; rfl
  obtain ⟨v, rfl⟩ : ∃ v, vs = #[v] := ⟨vs[0], Array.ext (by simpa using h1) (fun i h1 h2 => by simp at h2; subst h2; rfl)⟩
  refine (callsIn_wide.1 (Rf.Size_in n hbd v (hv.2 0 _ v rfl rfl))).mono fun e w' h => ⟨_, h.1, .int _ _, h.2⟩
end Go.Rf
