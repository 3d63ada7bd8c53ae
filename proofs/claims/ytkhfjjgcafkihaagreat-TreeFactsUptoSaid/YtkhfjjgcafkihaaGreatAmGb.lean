/- Part of the proof: abstract values over the given model of Go (G1, G3). Conditions: none of its own; see the statement in the seat's Rows text. -/
import Derived.Test.YtkhfjjgcafkihaaGreatAmThree
import Derived.Carry
import Derived.OpenShut
import Derived.Deep.Strs
import Derived.Test.YtkhfjjgcafkihaaGreatAmUa
import Derived.Test.YtkhfjjgcafkihaaGreatRows
import Derived.Test.YtkhfjjgcafkihaaGreatAmVc
import Derived.Lib.LaidTab
import Derived.LaidSub
import Derived.MakeChecks
set_option linter.unusedSimpArgs false
set_option linter.unusedVariables false
set_option linter.unusedSectionVars false
namespace Go.Am
open Go.Proofs Go.ChangeShapes Go.WideShapes
open Go.Proofs.YtkhfjjgcafkihaaGreat

def mu0 : Mu := fun _ => none
def st0 : St := ⟨0, fun _ => none⟩
abbrev bulk {H : Type} : DataW H → Nat := Rows.uptoBulk

theorem bulk_one {H : Type} (d : DataW H) : 1 ≤ bulk d := by
  cases d with
  | lit l => cases l <;> simp [bulk, Rows.uptoBulk]
  | nil => simp [bulk, Rows.uptoBulk]
  | ptr d => simp [bulk, Rows.uptoBulk]
  | slice elems spare => simp [bulk, Rows.uptoBulk]
  | agg parts => simp [bulk, Rows.uptoBulk]
  | iface t d => simp [bulk, Rows.uptoBulk]
  | map entries => simp [bulk, Rows.uptoBulk]
  | held h => simp [bulk, Rows.uptoBulk]
theorem bulk_sum {H : Type} {α : Type} {m : α → Nat} : ∀ (l : List α) (ds : List (DataW H)), l.length = ds.length → (∀ (i : Nat) a d, l[i]? = some a → ds[i]? = some d → m a ≤ bulk d) → (l.map m).sum ≤ Rows.uptoBulkAll ds
  | [], [], _, _ => by simp [Rows.uptoBulkAll]
  | a :: l, d :: ds, hl, h => by
    have h0 := h 0 a d rfl rfl
    have h1 := bulk_sum l ds (by simpa using hl) fun i x y hx hy => h (i + 1) x y (by simpa using hx) (by simpa using hy)
    simp only [List.map_cons, List.sum_cons, Rows.uptoBulkAll]
    show m a + (l.map m).sum ≤ bulk d + Rows.uptoBulkAll ds
    omega

/-- What a value of a type reads as, of a size that is at most its bulk. -/
structure RdAt (P : Program) (t : TypeId) {α : Type} (cs : α → List AV) (m : α → Nat) (w : World) (vals : List Value) (b : Nat) (a : α) : Prop where
  size : m a ≤ b
  len : vals.length = P.cellsOf t
  len' : (cs a).length = P.cellsOf t
  vr : ∀ (i : Nat) y v, (cs a)[i]? = some y → vals[i]? = some v → VR mu0 st0 w y v
def RdB (N : Nat) (P : Program) (t : TypeId) {α : Type} (cs : α → List AV) (m : α → Nat) : Prop :=
  ∀ (H : Type) (enc : TypeId × Value → H) (w : World) (fuel : Nat) (vals : List Value) (x : DataW H × List MemPlace), fuel < N →
    DataW.trod enc P w 0 (fun _ => true) true fuel t vals = some x → ∃ a, RdAt P t cs m w vals (bulk x.1) a

section
variable {P : Program} {t : TypeId} {N : Nat}
theorem RdB.mono {α : Type} {cs : α → List AV} {m : α → Nat} {N' : Nat} (h : RdB N' P t cs m) (hn : N ≤ N') : RdB N P t cs m :=
  fun H enc w fuel vals x hf => h H enc w fuel vals x (by omega)
theorem vr_one {w : World} {y : AV} {v : Value} (h : VR mu0 st0 w y v) : ∀ (i : Nat) y' v', ([y] : List AV)[i]? = some y' → [v][i]? = some v' → VR mu0 st0 w y' v' := by
  intro i y' v' h1 h2
  cases i with
  | zero => simp at h1 h2; subst h1; subst h2; exact h
  | succ i => simp at h1

theorem Rd.bool (ht : P.underlying t = some .bool) (hc : P.cellsOf t = 1) : RdB N P t (fun b : Bool => [.bool b]) (fun _ => 1) := by
  intro H enc w fuel vals x hfu h
  obtain ⟨b, rfl, rfl⟩ := DataW.trod_bool ht h
  exact ⟨b, bulk_one _, hc.symm, hc.symm, vr_one (.bool b)⟩
theorem Rd.int {k : IntKind} (ht : P.underlying t = some (.int k)) (hc : P.cellsOf t = 1) : RdB N P t (fun n : { n : Int // (Lit.int k n).wf = true } => [.int k n.1]) (fun _ => 1) := by
  intro H enc w fuel vals x hfu h
  obtain ⟨n, rfl, rfl, hw⟩ := DataW.trod_int ht h
  exact ⟨⟨n, hw⟩, bulk_one _, hc.symm, hc.symm, vr_one (.int k n)⟩
theorem Rd.str (ht : P.underlying t = some .string) (hc : P.cellsOf t = 1) : RdB N P t (fun s : List UInt8 => [.str s]) (fun s => s.length + 1) := by
  intro H enc w fuel vals x hfu h
  obtain ⟨s, rfl, rfl, hw⟩ := DataW.trod_string ht h
  exact ⟨s.data.toList, by simp [bulk, Rows.uptoBulk], hc.symm, hc.symm, vr_one (.str s)⟩
theorem Rd.map {α β : Type} {cs : α → List AV} {m : α → Nat} {cs' : β → List AV} {m' : β → Nat} (h : RdB N P t cs m) (f : α → β) (hcs : ∀ a, cs' (f a) = cs a) (hm : ∀ a, m' (f a) ≤ m a) : RdB N P t cs' m' := by
  intro H enc w fuel vals x hfu hx
  obtain ⟨a, h1, h2, h3, h4⟩ := h H enc w fuel vals x hfu hx
  exact ⟨f a, Nat.le_trans (hm a) h1, h2, by rw [hcs]; exact h3, fun i y v => by rw [hcs]; exact h4 i y v⟩
theorem spot_of_cell {w : World} {a : Addr} {v : Value} (h : w.cell? a = some v) : a.spot = none := by
  unfold World.cell? at h
  split at h
  · split at h
    · cases h
    · rename_i hs
      cases hq : a.spot with
      | none => rfl
      | some x => rw [hq] at hs; exact absurd rfl hs
  · cases h
theorem Rd.slice {α : Type} {e : TypeId} {cs : α → List AV} {m : α → Nat} (h : RdB N P e cs m) (ht : P.underlying t = some (.slice e)) (hc : P.cellsOf t = 1) (he : 0 < P.cellsOf e) :
    RdB N P t (fun l : List α => [.sl (l.map cs)]) (fun l => (l.map m).sum + 1) := by
  intro H enc w fuel vals x hfu hx
  rcases DataW.trod_slice ht hx with ⟨rfl, rfl⟩ | ⟨a, len, cap, elems, rest, n, hfe, rfl, rfl, _, hle, _, hel, hat, hsp, _⟩
  · exact ⟨[], by simp [bulk, Rows.uptoBulk], hc.symm, hc.symm, vr_one (.slnil none)⟩
  · have key : ∀ i : _root_.Fin len, ∃ p : α × List Value, (∃ d, elems[i.1]? = some d ∧ RdAt P e cs m w p.2 (bulk d.1) p.1) ∧ w.cells? 0 (a.add (i.1 * P.cellsOf e)) (P.cellsOf e) = some p.2 := by
      intro i
      have h1 := hat i.1 i.2
      have h2 : i.1 < elems.length := by rw [hel]; exact i.2
      rw [List.getElem?_eq_getElem h2] at h1
      obtain ⟨cv, h3, h4⟩ := Option.bind_eq_some_iff.1 h1
      obtain ⟨b, hb⟩ := h H enc w _ _ _ (by omega) h4
      exact ⟨(b, cv), ⟨_, List.getElem?_eq_getElem h2, hb⟩, h3⟩
    obtain ⟨f, hf⟩ := Classical.axiomOfChoice key
    refine ⟨(List.ofFn fun i => (f i).1), ?_, hc.symm, hc.symm, ?_⟩
    · have := bulk_sum (m := m) (List.ofFn fun i => (f i).1) (elems.map (·.1)) (by simp [hel]) (fun i b d hb hd => by
        simp only [List.getElem?_ofFn, List.getElem?_map, Option.map_eq_some_iff] at hb hd
        split at hb
        · rename_i hi
          obtain ⟨d', hd', rfl⟩ := hd
          obtain ⟨⟨d2, hd2, hr⟩, _⟩ := hf ⟨i, hi⟩
          obtain rfl := Option.some.inj hb
          obtain rfl := Option.some.inj (hd2.symm.trans hd')
          exact hr.size
        · cases hb)
      simp only [bulk, Rows.uptoBulk] at this ⊢
      omega
    · refine vr_one ?_
      by_cases h0 : len = 0 ∧ cap = 0
      · obtain ⟨rfl, rfl⟩ := h0
        simp
        exact .slnil _
      · have hb : a.block < w.heap.size := by
          by_cases hl : 0 < len
          · obtain ⟨_, h3⟩ := hf ⟨0, hl⟩
            have := World.cells?_block h3 he
            simp only [Addr.add] at this
            split at this <;> exact this
          · have hl0 : len = 0 := by omega
            subst hl0
            obtain ⟨h1, h2⟩ := hsp rfl
            have h3 := h2 0 (by omega)
            have h4 : 0 < rest.length := by omega
            rw [List.getElem?_eq_getElem h4] at h3
            obtain ⟨cv, h5, _⟩ := Option.bind_eq_some_iff.1 h3
            have := World.cells?_block h5 he
            simp only [Addr.add] at this
            split at this <;> exact this
        have hlen : ((List.ofFn fun i => (f i).1).map cs).length = len := by simp
        have hg : ∀ (i j : Nat) x, get2 ((List.ofFn fun i => (f i).1).map cs) i j = some x → ∃ hi : i < len, (cs (f ⟨i, hi⟩).1)[j]? = some x := by
          intro i j x hx
          simp only [get2, List.getElem?_map, List.getElem?_ofFn] at hx
          split at hx
          · rename_i hi
            exact ⟨hi, hx⟩
          · simp at hx
        have hv : ∀ (i j : Nat) (hi : i < len) x, (cs (f ⟨i, hi⟩).1)[j]? = some x → ∃ v, (f ⟨i, hi⟩).2[j]? = some v ∧ w.cell? (a.add (i * P.cellsOf e + j)) = some v ∧ VR mu0 st0 w x v := by
          intro i j hi x hx
          obtain ⟨⟨d, hd, hr⟩, hcs⟩ := hf ⟨i, hi⟩
          obtain ⟨_, hcl, hcc⟩ := World.cells?_some hcs
          have hj : j < P.cellsOf e := by rw [← hr.len']; exact (List.getElem?_eq_some_iff.1 hx).1
          have hj2 : j < (f ⟨i, hi⟩).2.length := by omega
          have h5 := hcc j hj
          rw [Go.Deep.add_add, List.getElem?_eq_getElem hj2] at h5
          exact ⟨_, List.getElem?_eq_getElem hj2, h5, hr.vr j x _ hx (List.getElem?_eq_getElem hj2)⟩
        have hspot : (List.ofFn fun i => (f i).1).map cs ≠ [] → a.spot = none := fun hne => by
          have hpos : 0 < len := by
            cases len with
            | zero => simp at hne
            | succ n => omega
          obtain ⟨⟨d, hd, hr⟩, hcs⟩ := hf ⟨0, hpos⟩
          obtain ⟨_, hcl, hcc⟩ := World.cells?_some hcs
          have h5 := hcc 0 he
          have h6 : 0 < (f ⟨0, hpos⟩).2.length := by omega
          rw [List.getElem?_eq_getElem h6] at h5
          have h7 : (a.add (0 * P.cellsOf e)).add 0 = a := by rw [Nat.zero_mul]; rfl
          rw [h7] at h5
          exact spot_of_cell h5
        have := VR.sl (μ := mu0) (s := st0) (w := w) ((List.ofFn fun i => (f i).1).map cs) a cap (P.cellsOf e) (fun i j => if hi : i < len then ((f ⟨i, hi⟩).2[j]?).getD default else default) hb (fun id p hp => by cases hp) hspot (by rw [hlen]; exact hle)
          (fun x hx => by
            obtain ⟨b, hb, rfl⟩ := List.mem_map.1 hx
            obtain ⟨i, rfl⟩ := List.mem_ofFn.1 hb
            obtain ⟨⟨d, hd, hr⟩, _⟩ := hf i
            exact hr.len')
          (fun i j x hx => by
            obtain ⟨hi, hx⟩ := hg i j x hx
            obtain ⟨v, h1, h2, _⟩ := hv i j hi x hx
            rw [h2, dif_pos hi, h1]; rfl)
          (fun i j x hx => by
            obtain ⟨hi, hx⟩ := hg i j x hx
            obtain ⟨v, h1, _, h3⟩ := hv i j hi x hx
            rw [dif_pos hi, h1]; exact h3)
        rw [hlen] at this
        exact this
/-- .. of a struct's fields. -/
def RdF (N : Nat) (P : Program) (fs : List Field) (off : Nat) {α : Type} (cs : α → List AV) (m : α → Nat) : Prop :=
  ∀ (H : Type) (enc : TypeId × Value → H) (w : World) (fuel : Nat) (vals : List Value) (xs : List (DataW H × List MemPlace)), fuel < N →
    (∀ (i : Nat) (f : Field), fs[i]? = some f → DataW.trod enc P w 0 (fun _ => true) true fuel f.type ((vals.drop f.offset).take (P.cellsOf f.type)) = xs[i]?) → xs.length = fs.length →
    ∃ a, m a ≤ Rows.uptoBulkAll (xs.map (·.1)) ∧ ∀ (i : Nat) y v, (cs a)[i]? = some y → vals[off + i]? = some v → VR mu0 st0 w y v
theorem RdF.nil {off : Nat} : RdF N P [] off (fun _ : Unit => []) (fun _ => 0) := by
  intro H enc w fuel vals xs hfu h hl
  exact ⟨(), Nat.zero_le _, fun i y v hy => by simp at hy⟩
theorem RdF.cons {α β : Type} {f : Field} {fs : List Field} {off : Nat} {cs : α → List AV} {m : α → Nat} {cs' : β → List AV} {m' : β → Nat} (h : RdB N P f.type cs m) (ho : f.offset = off) (h' : RdF N P fs (off + P.cellsOf f.type) cs' m') :
    RdF N P (f :: fs) off (fun p : α × β => cs p.1 ++ cs' p.2) (fun p => m p.1 + m' p.2) := by
  intro H enc w fuel vals xs hfu hx hl
  cases xs with
  | nil => simp at hl
  | cons x xs =>
    obtain ⟨a, ha⟩ := h H enc w fuel _ x hfu (by simpa using hx 0 f rfl)
    obtain ⟨b, hb, hv⟩ := h' H enc w fuel vals xs hfu (fun i g hg => by simpa using hx (i + 1) g (by simpa using hg)) (by simpa using hl)
    refine ⟨(a, b), ?_, fun i y v hy hvv => ?_⟩
    · have := ha.size
      simp only [List.map_cons, Rows.uptoBulkAll]
      show m a + m' b ≤ bulk x.1 + Rows.uptoBulkAll (xs.map (·.1))
      omega
    · simp only [List.getElem?_append] at hy
      have hla := ha.len'
      split at hy
      · rename_i hi
        refine ha.vr i y v hy ?_
        rw [List.getElem?_take, if_pos (by omega), List.getElem?_drop, ho]
        exact hvv
      · rename_i hi
        refine hv (i - (cs a).length) y v hy ?_
        rw [show off + P.cellsOf f.type + (i - (cs a).length) = off + i by omega]
        exact hvv
theorem Rd.struct {α : Type} {fs : Array Field} {cs : α → List AV} {m : α → Nat} (ht : P.underlying t = some (.struct fs)) (h : RdF N P fs.toList 0 cs m) (hl : ∀ a, (cs a).length = P.cellsOf t) : RdB (N + 1) P t cs (fun a => m a + 1) := by
  intro H enc w fuel vals x hfu hx
  obtain ⟨xs, n, hfe, rfl, hlen, hsz, hf⟩ := DataW.trod_struct ht hx
  obtain ⟨a, ha, hv⟩ := h H enc w n vals xs (by omega) (fun i f hfi => hf i f (by simpa using hfi)) (by simpa using hsz)
  refine ⟨a, ?_, hlen, hl a, fun i y v hy hvv => hv i y v hy (by simpa using hvv)⟩
  simp only [bulk, Rows.uptoBulk]
  omega

/-- An argument of one cell. -/
theorem cells_of_okWide {w : World} {r : Reach} {base : Nat} {v : Value} {d : TypeDesc} (ht : P.underlying t = some d) (hs : (match d with | .struct _ | .array _ _ => false | _ => true) = true) (h : Value.okWide P w r base t v) : v.cells = #[v] := by
  unfold Value.okWide at h
  rw [ht] at h
  cases d <;> simp at hs h <;> unfold Cell.okWide Cell.ok at h <;> rw [ht] at h <;> cases v <;> simp at h <;> rfl
/-- What a call's arguments read as. -/
theorem Rd.arg {α : Type} {cs : α → AV} {m : α → Nat} (h : ∀ N, RdB N P t (fun a => [cs a]) m) {H : Type} {enc : TypeId × Value → H} {w : World} {r : Reach} {base : Nat} {v : Value} {d : DataW H} {ps : List MemPlace} {D : TypeDesc}
    (ht : P.underlying t = some D) (hs : (match D with | .struct _ | .array _ _ => false | _ => true) = true) (hv : Value.okWide P w r base t v) (hd : DataW.Trod enc P w 0 (fun _ => true) true t v d ps) :
    ∃ a, m a ≤ bulk d ∧ VR mu0 st0 w (cs a) v := by
  obtain ⟨fuel, hf⟩ := hd
  obtain ⟨a, ha⟩ := h (fuel + 1) H enc w fuel _ _ (by omega) hf
  refine ⟨a, ha.size, ha.vr 0 _ v rfl ?_⟩
  rw [cells_of_okWide ht hs hv]
  rfl
/-- Two of a kind, side by side. -/
theorem Rd.array2 {α : Type} {e : TypeId} {cs : α → List AV} {m : α → Nat} (h : RdB N P e cs m) (ht : P.underlying t = some (.array 2 e)) (hc : P.cellsOf t = P.cellsOf e + P.cellsOf e) :
    RdB N P t (fun p : α × α => cs p.1 ++ cs p.2) (fun p => m p.1 + m p.2) := by
  intro H enc w fuel vals x hfu hx
  obtain ⟨xs, n, hfe, rfl, hlen, hsz, hf⟩ := DataW.trod_array ht hx
  match xs, hsz with
  | [x0, x1], _ =>
    obtain ⟨a, ha⟩ := h H enc w n _ x0 (by omega) (hf 0 (by omega))
    obtain ⟨b, hb⟩ := h H enc w n _ x1 (by omega) (hf 1 (by omega))
    have h1 := ha.len'
    have h2 := hb.len'
    refine ⟨(a, b), ?_, hlen, by simp only [List.length_append]; omega, fun i y v hy hv => ?_⟩
    · have h3 := ha.size
      have h4 := hb.size
      simp only [bulk, Rows.uptoBulk, Rows.uptoBulkAll, List.map_cons, List.map_nil] at h3 h4 ⊢
      omega
    · simp only [List.getElem?_append] at hy
      split at hy
      · rename_i hi
        refine ha.vr i y v hy ?_
        rw [List.getElem?_take, if_pos (by omega), List.getElem?_drop]
        simpa using hv
      · rename_i hi
        have hlt : i - (cs a).length < (cs b).length := (List.getElem?_eq_some_iff.1 hy).1
        refine hb.vr (i - (cs a).length) y v hy ?_
        rw [List.getElem?_take, if_pos (by omega), List.getElem?_drop]
        rw [show 1 * P.cellsOf e + (i - (cs a).length) = i by omega]
        exact hv
/-- An argument of many cells. -/
theorem Rd.argA {α : Type} {cs : α → List AV} {m : α → Nat} (h : ∀ N, RdB N P t cs m) {H : Type} {enc : TypeId × Value → H} {w : World} {r : Reach} {base : Nat} {v : Value} {d : DataW H} {ps : List MemPlace} {D : TypeDesc}
    (ht : P.underlying t = some D) (hs : (match D with | .struct _ | .array _ _ => false | _ => true) = false) (hv : Value.okWide P w r base t v) (hd : DataW.Trod enc P w 0 (fun _ => true) true t v d ps) :
    ∃ a, m a ≤ bulk d ∧ VR mu0 st0 w (.agg (cs a)) v := by
  have hc : ∃ arr, v = .agg arr := by
    unfold Value.okWide at hv
    rw [ht] at hv
    cases D <;> simp at hs hv
    · obtain ⟨a, h, _⟩ := hv; exact ⟨a, h⟩
    · obtain ⟨a, h, _⟩ := hv; exact ⟨a, h⟩
  obtain ⟨arr, rfl⟩ := hc
  obtain ⟨fuel, hf⟩ := hd
  obtain ⟨a, ha⟩ := h (fuel + 1) H enc w fuel _ _ (by omega) hf
  have hcell : (Value.agg arr).cells = arr := rfl
  rw [hcell] at ha
  refine ⟨a, ha.size, .agg _ _ ?_ fun i x v hx hv => ha.vr i x v hx (by simpa using hv)⟩
  have h1 := ha.len
  have h2 := ha.len'
  simp only [Array.length_toList] at h1
  omega
end
end Go.Am
namespace Go.Am
open Go.Proofs Go.ChangeShapes Go.WideShapes
open Go.Proofs.YtkhfjjgcafkihaaGreat
theorem below_all {H : Type} {enc : TypeId × Value → H} {P : Program} (hl : laidOutB P = true) {W W' : World} (hb : Go.RowKit.Below W.heap.size W W') :
    ∀ (ts : List TypeId) (vs : List Value) (ds : List (DataW H)) (ps : List MemPlace), (∀ t ∈ ts, P.readableRec t = true ∧ t < P.types.size) →
      DataW.TrodAll enc P W 0 (fun _ => true) true ts vs ds ps → (∀ x ∈ ps, x.block < W.heap.size) → DataW.TrodAll enc P W' 0 (fun b => decide (b < W.heap.size)) true ts vs ds ps
  | [], vs, ds, ps, _, h, _ => by
    obtain ⟨rfl, rfl, rfl⟩ := trodAll_nil h
    exact trodAll_mk0
  | t :: ts, vs, ds, ps, ht, h, hlt => by
    obtain ⟨v, vs, d, ds, p, q, rfl, rfl, rfl, h1, h2⟩ := trodAll_cons h
    obtain ⟨hr, hsz⟩ := ht t (by simp)
    exact ⟨p, q, Go.RowKit.Below.trod hl hr hsz h1 hb fun x hx => hlt x (by simp [hx]), below_all hl hb ts vs ds q (fun t h => ht t (by simp [h])) h2 fun x hx => hlt x (by simp [hx]), rfl⟩

theorem laidOut : laidOutB Tryz.prog = true := by kernel_rfl
/-- The start of a call: no own objects. -/
theorem rel_start {E : Env} {W : World} (hK : E.K = W.heap.size) (hg : E.gw = W) : Rel E mu0 st0 W where
  obj id p h := by cases h
  inj i j p q h := by cases h
  lo id p h := by cases h
  gl b _ := by rw [hg]
  size := by rw [hK]; exact Nat.le_refl _
  tape := by rw [hg]
  os := by rw [hg]
theorem fr_below {W W' : World} {μ' : Mu} {s' : St} (h : Fr 0 NoW mu0 st0 W μ' s' W') : Go.RowKit.Below W.heap.size W W' :=
  ⟨h.os, h.tape, h.output, h.size, fun k hk => h.blocks k hk fun id p _ hp => by cases hp⟩

/-- A law that comes to true, as its row says it. -/
theorem law_lift {H : Type} {enc : TypeId × Value → H} {f : FuncId} {fn : Func} {W : World} {args : Array Value} {ds gs : List (DataW H)} {before : List MemPlace} {s : ChangeSpec} {xs : List AV}
    (hrt : fn.resultTypes = #[4]) (hts : ∀ t ∈ fn.params.toList, Tryz.prog.readableRec t = true ∧ t < Tryz.prog.types.size) (hv : s.vars = [])
    (hW : DataW.Whole enc Tryz.prog fn.params.toList s.vars false W args.toList ds gs before)
    (hres : (s.fn H ds).results = [.lit (.bool true)]) (harg : (s.fn H ds).args = ds) (hvs : (s.fn H ds).vars = []) (hvr : VRs mu0 st0 W xs args) (hFT : FT (env W.heap.size W) NoW f xs st0 (.bool true) st0) :
    Calls Tryz.prog f args W fun e W' => ∃ v, e = .returned v ∧ s.post enc Tryz.prog fn false true false false W args v W' := by
  refine (hFT.2 mu0 W args (rel_start rfl rfl) hvr).mono fun e W' ⟨v, μ', he, hr, _, hf⟩ => ?_
  have hb := fr_below hf
  cases hr
  subst he
  refine ⟨_, rfl, ?_⟩
  have hlt : ∀ x ∈ before, x.block < W.heap.size := fun x hx => by simpa using hW.lt x hx
  have hW0 := hW
  obtain ⟨p, q, hA, hV, rfl, hz, _⟩ := hW
  rw [hv] at hV
  obtain ⟨rfl, rfl⟩ := trodVars_none hV
  simp only [List.append_nil] at hlt
  refine ⟨ds, [], p ++ [], [], p, [], hW0, ?_, ?_, ?_, hb.frame _, fun h => by cases h⟩
  · rw [hrt, List.append_nil, hres]
    exact trodAll_mk1 ⟨1, by simp [DataW.trod, Tryz.underlying4, Value.cells]⟩
  · rw [List.append_nil, harg]
    exact below_all laidOut hb _ _ _ _ hts hA hlt
  · rw [hv, List.append_nil, hvs]
    rfl



theorem cells4 : Tryz.prog.cellsOf 4 = 1 := by kernel_rfl
theorem cells3 : Tryz.prog.cellsOf 3 = 1 := by kernel_rfl
theorem cells2 : Tryz.prog.cellsOf 2 = 1 := by kernel_rfl
theorem cells9 : Tryz.prog.cellsOf 9 = 1 := by kernel_rfl
theorem cells42 : Tryz.prog.cellsOf 42 = 3 := by kernel_rfl
theorem cells27 : Tryz.prog.cellsOf 27 = 1 := by kernel_rfl
theorem cells44 : Tryz.prog.cellsOf 44 = 5 := by kernel_rfl
theorem cells35 : Tryz.prog.cellsOf 35 = 1 := by kernel_rfl
theorem cells37 : Tryz.prog.cellsOf 37 = 2 := by kernel_rfl
theorem cells46 : Tryz.prog.cellsOf 46 = 14 := by kernel_rfl
theorem cells38 : Tryz.prog.cellsOf 38 = 1 := by kernel_rfl
theorem cells40 : Tryz.prog.cellsOf 40 = 3 := by kernel_rfl
theorem cells23 : Tryz.prog.cellsOf 23 = 1 := by kernel_rfl
theorem cells89 : Tryz.prog.cellsOf 89 = 2 := by kernel_rfl
theorem cells22 : Tryz.prog.cellsOf 22 = 1 := by kernel_rfl
theorem cells25 : Tryz.prog.cellsOf 25 = 2 := by kernel_rfl
theorem cells29 : Tryz.prog.cellsOf 29 = 2 := by kernel_rfl
theorem cells26 : Tryz.prog.cellsOf 26 = 1 := by kernel_rfl
theorem cells5 : Tryz.prog.cellsOf 5 = 1 := by kernel_rfl
theorem sum_one {α : Type} (l : List α) : (l.map fun _ => 1).sum = l.length := by induction l with
  | nil => rfl
  | cons x l ih => simp only [List.map_cons, List.sum_cons, List.length_cons, ih]; omega
def mV (v : V) : Nat := v.s.length + 1
def mTm (t : Tm) : Nat := t.v.s.length + 1
def mAtm (t : Atm) : Nat := (t.a.map mTm).sum
def mLit (l : Lit) : Nat := mAtm l.atom + l.l.v.s.length + l.r.v.s.length + 1
def mRl (r : Rl) : Nat := mAtm r.head + (r.body.map mLit).sum + 1
def mPg (g : Pg) : Nat := (g.rules.map mRl).sum
def mFc (f : Fc) : Nat := f.p.length + (f.a.map mV).sum + 1
theorem rdV {N : Nat} : RdB N Tryz.prog 42 V.cs mV := by
  have h : RdF N Tryz.prog _ 0 _ _ := (RdF.cons (f := ⟨"IsSym", 4, 0, false, "", "", 0⟩) (Rd.bool Tryz.underlying4 cells4) rfl (RdF.cons (f := ⟨"Sym", 9, 1, false, "", "", 8⟩) (Rd.str Tryz.underlying9 cells9) (by rw [cells4]) (RdF.cons (f := ⟨"N", 2, 2, false, "", "", 24⟩) (Rd.int (k := .i64) Tryz.underlying2 cells2) (by rw [cells4, cells9]) RdF.nil)))
  exact (Rd.map (cs' := V.cs) (m' := mV) (Rd.struct Tryz.underlying42 h fun a => by rw [cells42]; rfl) (fun a => ⟨a.1, a.2.1, a.2.2.1.1⟩) (fun a => rfl) fun a => by first | omega | (simp only [mV, mTm, mAtm, mLit, mRl, mPg, mFc]; omega)).mono (Nat.le_succ _)
theorem rdVs {N : Nat} : RdB N Tryz.prog 27 (fun l : List V => [.sl (l.map V.cs)]) (fun l => (l.map mV).sum) :=
  Rd.map (Rd.slice rdV Tryz.underlying27 cells27 (by rw [cells42]; omega)) (fun l => l) (fun l => rfl) fun l => Nat.le_succ _
theorem rdTm {N : Nat} : RdB N Tryz.prog 44 Tm.cs mTm := by
  have h : RdF N Tryz.prog _ 0 _ _ := (RdF.cons (f := ⟨"IsVar", 4, 0, false, "", "", 0⟩) (Rd.bool Tryz.underlying4 cells4) rfl (RdF.cons (f := ⟨"Name", 9, 1, false, "", "", 8⟩) (Rd.str Tryz.underlying9 cells9) (by rw [cells4]) (RdF.cons (f := ⟨"Val", 42, 2, false, "", "", 24⟩) rdV (by rw [cells4, cells9]) RdF.nil)))
  exact (Rd.map (cs' := Tm.cs) (m' := mTm) (Rd.struct Tryz.underlying44 h fun a => by rw [cells44]; rfl) (fun a => ⟨a.1, a.2.1, a.2.2.1⟩) (fun a => rfl) fun a => by first | omega | (simp only [mV, mTm, mAtm, mLit, mRl, mPg, mFc]; omega)).mono (Nat.le_succ _)
theorem rdTms {N : Nat} : RdB N Tryz.prog 35 (fun l : List Tm => [.sl (l.map Tm.cs)]) (fun l => (l.map mTm).sum) :=
  Rd.map (Rd.slice rdTm Tryz.underlying35 cells35 (by rw [cells44]; omega)) (fun l => l) (fun l => rfl) fun l => Nat.le_succ _
theorem rdAtm {N : Nat} : RdB N Tryz.prog 37 Atm.cs mAtm := by
  have h : RdF N Tryz.prog _ 0 _ _ := (RdF.cons (f := ⟨"Pred", 9, 0, false, "", "", 0⟩) (Rd.str Tryz.underlying9 cells9) rfl (RdF.cons (f := ⟨"Args", 35, 1, false, "", "", 16⟩) rdTms (by rw [cells9]) RdF.nil))
  exact (Rd.map (cs' := Atm.cs) (m' := mAtm) (Rd.struct Tryz.underlying37 h fun a => by rw [cells37]; rfl) (fun a => ⟨a.1, a.2.1⟩) (fun a => rfl) fun a => by first | omega | (simp only [mV, mTm, mAtm, mLit, mRl, mPg, mFc]; omega)).mono (Nat.le_succ _)
theorem rdLit {N : Nat} : RdB N Tryz.prog 46 Lit.cs mLit := by
  have h : RdF N Tryz.prog _ 0 _ _ := (RdF.cons (f := ⟨"Kind", 3, 0, false, "", "", 0⟩) (Rd.int (k := .i64) Tryz.underlying3 cells3) rfl (RdF.cons (f := ⟨"Atom", 37, 1, false, "", "", 8⟩) rdAtm (by rw [cells3]) (RdF.cons (f := ⟨"Op", 9, 3, false, "", "", 48⟩) (Rd.str Tryz.underlying9 cells9) (by rw [cells3, cells37]) (RdF.cons (f := ⟨"L", 44, 4, false, "", "", 64⟩) rdTm (by rw [cells3, cells37, cells9]) (RdF.cons (f := ⟨"R", 44, 9, false, "", "", 120⟩) rdTm (by rw [cells3, cells37, cells9, cells44]) RdF.nil)))))
  exact (Rd.map (cs' := Lit.cs) (m' := mLit) (Rd.struct Tryz.underlying46 h fun a => by rw [cells46]; rfl) (fun a => ⟨a.1.1, a.2.1, a.2.2.1, a.2.2.2.1, a.2.2.2.2.1⟩) (fun a => rfl) fun a => by first | omega | (simp only [mV, mTm, mAtm, mLit, mRl, mPg, mFc]; omega)).mono (Nat.le_succ _)
theorem rdLits {N : Nat} : RdB N Tryz.prog 38 (fun l : List Lit => [.sl (l.map Lit.cs)]) (fun l => (l.map mLit).sum) :=
  Rd.map (Rd.slice rdLit Tryz.underlying38 cells38 (by rw [cells46]; omega)) (fun l => l) (fun l => rfl) fun l => Nat.le_succ _
theorem rdRl {N : Nat} : RdB N Tryz.prog 40 Rl.cs mRl := by
  have h : RdF N Tryz.prog _ 0 _ _ := (RdF.cons (f := ⟨"Head", 37, 0, false, "", "", 0⟩) rdAtm rfl (RdF.cons (f := ⟨"Body", 38, 2, false, "", "", 40⟩) rdLits (by rw [cells37]) RdF.nil))
  exact (Rd.map (cs' := Rl.cs) (m' := mRl) (Rd.struct Tryz.underlying40 h fun a => by rw [cells40]; rfl) (fun a => ⟨a.1, a.2.1⟩) (fun a => rfl) fun a => by first | omega | (simp only [mV, mTm, mAtm, mLit, mRl, mPg, mFc]; omega)).mono (Nat.le_succ _)
theorem rdRls {N : Nat} : RdB N Tryz.prog 23 (fun l : List Rl => [.sl (l.map Rl.cs)]) (fun l => (l.map mRl).sum) :=
  Rd.map (Rd.slice rdRl Tryz.underlying23 cells23 (by rw [cells40]; omega)) (fun l => l) (fun l => rfl) fun l => Nat.le_succ _
theorem rdDc {N : Nat} : RdB N Tryz.prog 89 Dc.cs (fun _ => 1) := by
  have h : RdF N Tryz.prog _ 0 _ _ := (RdF.cons (f := ⟨"Pred", 9, 0, false, "", "", 0⟩) (Rd.str Tryz.underlying9 cells9) rfl (RdF.cons (f := ⟨"Arity", 3, 1, false, "", "", 16⟩) (Rd.int (k := .i64) Tryz.underlying3 cells3) (by rw [cells9]) RdF.nil))
  exact (Rd.map (cs' := Dc.cs) (m' := (fun _ => 1)) (Rd.struct Tryz.underlying89 h fun a => by rw [cells89]; rfl) (fun a => ⟨a.1, a.2.1.1⟩) (fun a => rfl) fun a => by first | omega | (simp only [mV, mTm, mAtm, mLit, mRl, mPg, mFc]; omega)).mono (Nat.le_succ _)
theorem rdDcs {N : Nat} : RdB N Tryz.prog 22 (fun l : List Dc => [.sl (l.map Dc.cs)]) (fun l => l.length) :=
  Rd.map (Rd.slice rdDc Tryz.underlying22 cells22 (by rw [cells89]; omega)) (fun l => l) (fun l => rfl) fun l => by rw [sum_one]; omega
theorem rdPg {N : Nat} : RdB N Tryz.prog 25 Pg.cs mPg := by
  have h : RdF N Tryz.prog _ 0 _ _ := (RdF.cons (f := ⟨"Decls", 22, 0, false, "", "", 0⟩) rdDcs rfl (RdF.cons (f := ⟨"Rules", 23, 1, false, "", "", 24⟩) rdRls (by rw [cells22]) RdF.nil))
  exact (Rd.map (cs' := Pg.cs) (m' := mPg) (Rd.struct Tryz.underlying25 h fun a => by rw [cells25]; rfl) (fun a => ⟨a.1, a.2.1⟩) (fun a => rfl) fun a => by first | omega | (simp only [mV, mTm, mAtm, mLit, mRl, mPg, mFc]; omega)).mono (Nat.le_succ _)
theorem rdFc {N : Nat} : RdB N Tryz.prog 29 Fc.cs mFc := by
  have h : RdF N Tryz.prog _ 0 _ _ := (RdF.cons (f := ⟨"Pred", 9, 0, false, "", "", 0⟩) (Rd.str Tryz.underlying9 cells9) rfl (RdF.cons (f := ⟨"Args", 27, 1, false, "", "", 16⟩) rdVs (by rw [cells9]) RdF.nil))
  exact (Rd.map (cs' := Fc.cs) (m' := mFc) (Rd.struct Tryz.underlying29 h fun a => by rw [cells29]; rfl) (fun a => ⟨a.1, a.2.1⟩) (fun a => rfl) fun a => by first | omega | (simp only [mV, mTm, mAtm, mLit, mRl, mPg, mFc]; omega)).mono (Nat.le_succ _)
theorem rdFcs {N : Nat} : RdB N Tryz.prog 26 (fun l : List Fc => [.sl (l.map Fc.cs)]) (fun l => (l.map mFc).sum) :=
  Rd.map (Rd.slice rdFc Tryz.underlying26 cells26 (by rw [cells29]; omega)) (fun l => l) (fun l => rfl) fun l => Nat.le_succ _
theorem sum_mem {α : Type} (m : α → Nat) : ∀ (l : List α) (x : α), x ∈ l → m x ≤ (l.map m).sum
  | [], _, h => by cases h
  | y :: l, x, h => by
    rw [List.map_cons, List.sum_cons]
    rcases List.mem_cons.1 h with e | h
    · rw [e]; exact Nat.le_add_right _ _
    · exact Nat.le_trans (sum_mem m l x h) (Nat.le_add_left _ _)
theorem sum_len {α : Type} (m : α → Nat) (hm : ∀ a, 1 ≤ m a) : ∀ (l : List α), l.length ≤ (l.map m).sum
  | [] => by simp
  | y :: l => by
    rw [List.map_cons, List.sum_cons, List.length_cons]
    have := hm y
    have := sum_len m hm l
    omega
theorem sum_le {α : Type} (m m' : α → Nat) (h : ∀ a, m a ≤ m' a) : ∀ (l : List α), (l.map m).sum ≤ (l.map m').sum
  | [] => by simp
  | y :: l => by
    simp only [List.map_cons, List.sum_cons]
    have := h y
    have := sum_le m m' h l
    omega
theorem tms_le (l : List Tm) : l.length ≤ (l.map mTm).sum := sum_len mTm (fun a => by unfold mTm; omega) l
theorem vs_le (l : List V) : l.length ≤ (l.map mV).sum := sum_len mV (fun a => by unfold mV; omega) l
theorem tms_ok {l : List Tm} (h : (l.map mTm).sum ≤ 1048576) : okTms l = true := okTms_iff.2 fun t ht => by
  have h1 := sum_mem mTm l t ht
  unfold mTm at h1 h
  simp only [LIM]; omega
theorem vs_ok {l : List V} (h : (l.map mV).sum ≤ 1048576) : okR l = true := okR_iff.2 ⟨by have := vs_le l; simp only [LIM]; omega, fun v hv => by
  have h1 := sum_mem mV l v hv
  unfold mV at h1 h
  simp only [LIM]; omega⟩
theorem lit_le (l : Lit) : l.atom.a.length ≤ mLit l := by
  have := tms_le l.atom.a
  unfold mLit mAtm; omega
theorem pg_ok (g : Pg) (h : mPg g ≤ 1048576) : okPg g = true := by
  unfold mPg at h
  refine okPg_iff.2 ⟨?_, fun r hr => okRl_iff.2 ?_⟩
  · have := sum_len mRl (fun a => by unfold mRl; omega) g.rules
    simp only [MB]; omega
  · have h1 := sum_mem mRl g.rules r hr
    have h2 := sum_len mLit (fun a => by unfold mLit; omega) r.body
    have h3 := sum_le (fun t : Lit => t.atom.a.length) mLit lit_le r.body
    have h4 := tms_le r.head.a
    have h5 : mRl r = mAtm r.head + (r.body.map mLit).sum + 1 := rfl
    have h6 : mAtm r.head = (r.head.a.map mTm).sum := rfl
    simp only [wL, MB] at *
    omega
theorem pg_okS (g : Pg) (h : mPg g ≤ 1048576) : okPgS g = true := by
  unfold mPg at h
  refine okPgS_iff.2 fun r hr => ?_
  have h1 := sum_mem mRl g.rules r hr
  have h5 : mRl r = mAtm r.head + (r.body.map mLit).sum + 1 := rfl
  have h6 : mAtm r.head = (r.head.a.map mTm).sum := rfl
  refine okRlS_iff.2 ⟨tms_ok (by omega), fun l hl => ?_⟩
  have h2 := sum_mem mLit r.body l hl
  have h3 : mLit l = mAtm l.atom + l.l.v.s.length + l.r.v.s.length + 1 := rfl
  have h4 : mAtm l.atom = (l.atom.a.map mTm).sum := rfl
  refine okLitS_iff.2 ⟨tms_ok (by omega), ?_, ?_⟩
  all_goals (simp only [LIM]; omega)
theorem fc_ok {f : Fc} (h : mFc f ≤ 1048576) : f.a.length < MB ∧ okFcS f = true := by
  have h1 : mFc f = f.p.length + (f.a.map mV).sum + 1 := rfl
  have h2 := vs_le f.a
  exact ⟨by simp only [MB]; omega, okFcS_iff.2 ⟨by simp only [LIM]; omega, vs_ok (by omega)⟩⟩
theorem fs_ok (l : List Fc) (h : (l.map mFc).sum ≤ 1048576) : okFs l = true := by
  refine okFs_iff.2 ⟨?_, fun f hf => ?_⟩
  · have := sum_len mFc (fun a => by unfold mFc; omega) l
    simp only [MB]; omega
  · have := sum_mem mFc l f hf
    exact (fc_ok (by omega)).1
theorem fs_okS (l : List Fc) (h : (l.map mFc).sum ≤ 1048576) : okFsS l = true := okFsS_iff.2 fun f hf => by
  have := sum_mem mFc l f hf
  exact (fc_ok (by omega)).2
theorem rdU8 {N : Nat} : RdB N Tryz.prog 5 (fun m : { m : Nat // m < 256 } => [.int .u8 (m.1 : Int)]) (fun _ => 1) :=
  Rd.map (Rd.int (k := .u8) Tryz.underlying5 cells5) (fun n => ⟨n.1.toNat, by
    have h := n.2
    simp only [Lit.wf, Bool.and_eq_true, decide_eq_true_eq, show IntKind.u8.min = 0 from rfl, show IntKind.u8.max = 255 from rfl] at h
    omega⟩) (fun n => by
    have h := n.2
    simp only [Lit.wf, Bool.and_eq_true, decide_eq_true_eq, show IntKind.u8.min = 0 from rfl, show IntKind.u8.max = 255 from rfl] at h
    have : ((n.1.toNat : Nat) : Int) = n.1 := by omega
    simp only [this]) fun _ => Nat.le_refl _
theorem pg_sz (g : Pg) (h : mPg g ≤ 1048576) : ∀ r ∈ g.rules, r.body.length ≤ 1048576 ∧ wL r.body ≤ 1048576 ∧ r.head.a.length ≤ 1048576 := by
  intro r hr
  unfold mPg at h
  have h1 := sum_mem mRl g.rules r hr
  have h2 := sum_len mLit (fun a => by unfold mLit; omega) r.body
  have h3 := sum_le (fun t : Lit => t.atom.a.length) mLit lit_le r.body
  have h4 := tms_le r.head.a
  have h5 : mRl r = mAtm r.head + (r.body.map mLit).sum + 1 := rfl
  have h6 : mAtm r.head = (r.head.a.map mTm).sum := rfl
  simp only [wL]
  omega
end Go.Am
