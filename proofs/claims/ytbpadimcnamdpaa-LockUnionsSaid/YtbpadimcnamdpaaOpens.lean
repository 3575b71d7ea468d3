/- What an argument reads as, opened by its type: whole numbers, truths, texts, slices, structs, as deep as the type goes. -/
import Derived.Test.YtbpadimcnamdpaaWWords
import Derived.Test.YtbpadimcnamdpaaWLast
import Derived.Deep.Slices
import Derived.ProofKit
import Derived.Carry
import Derived.KernelRfl
namespace Go.Proofs.Ytbpadimcnamdpaa
open Go.RowKit Go.Proofs.YtbpadimcnamdpaaW.PrintWords
namespace Opens
/-- Cells of type t that can be read as data hold a value of kind d, and it is good. -/
structure Opn (P : Program) (t : TypeId) {α : Type} (d : Kd α) (good : α → Prop) : Prop where
  size : P.cellsOf t = d.sz
  op : ∀ {H : Type} (enc : TypeId × Value → H) (W : World) (fuel : Nat) (cs : List Value) (y : DataW H × List MemPlace), DataW.trod enc P W 0 (fun _ => true) true fuel t cs = some y → ∃ x, d.K W x cs ∧ good x
theorem Opn.weaken {P : Program} {t : TypeId} {α : Type} {d : Kd α} {good good' : α → Prop} (h : Opn P t d good) (hg : ∀ x, good x → good' x) : Opn P t d good' :=
  ⟨h.size, fun enc W fuel cs y hy => let ⟨x, hk, hx⟩ := h.op enc W fuel cs y hy; ⟨x, hk, hg x hx⟩⟩
theorem opn_int {P : Program} {t : TypeId} {k : IntKind} (ht : P.underlying t = some (.int k)) (hc : P.cellsOf t = 1) : Opn P t (Kd.int k) (fun n => (Lit.int k n).wf = true) := by
  refine ⟨hc, fun enc W fuel cs y h => ?_⟩
  cases fuel with
  | zero => simp [DataW.trod] at h
  | succ n =>
    unfold DataW.trod at h
    rw [ht] at h
    split at h <;> simp_all
    obtain ⟨⟨rfl, hw⟩, _⟩ := h
    exact ⟨_, rfl, hw⟩
theorem opn_bool {P : Program} {t : TypeId} (ht : P.underlying t = some .bool) (hc : P.cellsOf t = 1) : Opn P t Kd.bool (fun _ => True) := by
  refine ⟨hc, fun enc W fuel cs y h => ?_⟩
  cases fuel with
  | zero => simp [DataW.trod] at h
  | succ n =>
    unfold DataW.trod at h
    rw [ht] at h
    split at h <;> first | exact ⟨_, rfl, trivial⟩ | simp_all
theorem opn_string {P : Program} {t : TypeId} (ht : P.underlying t = some .string) (hc : P.cellsOf t = 1) : Opn P t Kd.string (fun s => s.size ≤ maxLen) := by
  refine ⟨hc, fun enc W fuel cs y h => ?_⟩
  cases fuel with
  | zero => simp [DataW.trod] at h
  | succ n =>
    unfold DataW.trod at h
    rw [ht] at h
    split at h <;> simp_all
    exact ⟨_, rfl, h.1⟩
theorem opn_slice {P : Program} {t e : TypeId} {α : Type} {d : Kd α} {good : α → Prop} (ht : P.underlying t = some (.slice e)) (hc : P.cellsOf t = 1) (h : Opn P e d good) : Opn P t (Kd.slice e d) (fun xs => xs.length ≤ maxLen ∧ ∀ x ∈ xs, good x) := by
  refine ⟨hc, fun enc W fuel cs y hy => ?_⟩
  rcases Go.Deep.open_slice ht hy with ⟨rfl, _⟩ | ⟨a, len, cap, m, n, D, Pl, rfl, _, hl, hcap, hm, _, hel⟩
  · exact ⟨[], ⟨none, 0, rfl, Nat.le_refl _, rfl, Nat.zero_le _, fun h0 => absurd h0 (Nat.lt_irrefl _)⟩, Nat.zero_le _, by simp⟩
  have hmm : m = cap := by rw [hm]; rfl
  subst hmm
  have hx : ∀ i, i < len → ∃ x, (∃ cs', W.cells? 0 (a.add (i * P.cellsOf e)) (P.cellsOf e) = some cs' ∧ d.K W x cs') ∧ good x := fun i hi => by
    obtain ⟨cs', h1, h2⟩ := hel i (by omega)
    obtain ⟨x, hk, hg⟩ := h.op enc W n cs' _ h2
    exact ⟨x, ⟨cs', h1, hk⟩, hg⟩
  have hall : ∀ k, k ≤ len → ∃ xs : List α, xs.length = k ∧ (∀ (j : Nat) p, xs[j]? = some p → ∃ cs', W.cells? 0 (a.add (j * P.cellsOf e)) (P.cellsOf e) = some cs' ∧ d.K W p cs') ∧ ∀ x ∈ xs, good x := by
    intro k
    induction k with
    | zero => intro _; exact ⟨[], rfl, by simp, by simp⟩
    | succ k ih =>
      intro hk
      obtain ⟨xs, hlen, hcells, hgood⟩ := ih (by omega)
      obtain ⟨x, hxk, hxg⟩ := hx k (by omega)
      refine ⟨xs ++ [x], by simp [hlen], fun j p hj => ?_, fun z hz => ?_⟩
      · by_cases hjk : j < xs.length
        · rw [List.getElem?_append_left hjk] at hj
          exact hcells j p hj
        · have hje : j = k := by
            have := (List.getElem?_eq_some_iff.1 hj).1
            simp at this; omega
          subst hje
          rw [List.getElem?_append_right (by omega), hlen, Nat.sub_self] at hj
          obtain rfl : x = p := by simpa using hj
          exact hxk
      · rcases List.mem_append.1 hz with hz | hz
        · exact hgood z hz
        · rw [List.mem_singleton.1 hz]; exact hxg
  obtain ⟨xs, hlen, hcells, hgood⟩ := hall len (Nat.le_refl _)
  subst hlen
  refine ⟨xs, ⟨some a, m, rfl, hl, rfl, ?_, fun h0 => ⟨a, rfl, fun j p hj => ?_⟩⟩, by omega, hgood⟩
  · unfold maxLen at hcap; omega
  · obtain ⟨cs', h1, hk⟩ := hcells j p hj
    rw [h.size] at h1
    obtain ⟨_, hlen, hget⟩ := World.cells?_some h1
    refine ⟨cs', d.K_len hk, hk, fun i u hu => ?_⟩
    have hi : i < d.sz := by rw [← hlen]; exact (List.getElem?_eq_some_iff.1 hu).1
    have := hget i hi
    rw [hu, add_add] at this
    exact this
/-- Fields, the first of which begins at cell o. -/
structure OpnF (P : Program) (fs : List Field) (o : Nat) {α : Type} (d : Kd α) (good : α → Prop) : Prop where
  op : ∀ {H : Type} (enc : TypeId × Value → H) (W : World) (fuel : Nat) (cs : List Value) (ys : List (DataW H × List MemPlace)), cs.length = o + d.sz → (fs.mapM fun f => DataW.trod enc P W 0 (fun _ => true) true fuel f.type ((cs.drop f.offset).take (P.cellsOf f.type))) = some ys → ∃ x, d.K W x (cs.drop o) ∧ good x
theorem opnF_one {P : Program} {f : Field} {o : Nat} {α : Type} {d : Kd α} {good : α → Prop} (ho : f.offset = o) (h : Opn P f.type d good) : OpnF P [f] o d good := by
  refine ⟨fun enc W fuel cs ys hl hy => ?_⟩
  simp only [List.mapM_cons, List.mapM_nil, Option.pure_def, Option.bind_eq_bind, Option.bind_eq_some_iff] at hy
  obtain ⟨y, h1, _⟩ := hy
  obtain ⟨x, hk, hg⟩ := h.op enc W fuel _ _ h1
  rw [ho, h.size, List.take_of_length_le (by simp; omega)] at hk
  exact ⟨x, hk, hg⟩
theorem opnF_cons {P : Program} {f : Field} {fs : List Field} {o : Nat} {α β : Type} {a : Kd α} {b : Kd β} {ga : α → Prop} {gb : β → Prop} (ho : f.offset = o) (h : Opn P f.type a ga) (hs : OpnF P fs (o + a.sz) b gb) : OpnF P (f :: fs) o (Kd.pair a b) (fun x => ga x.1 ∧ gb x.2) := by
  refine ⟨fun enc W fuel cs ys hl hy => ?_⟩
  simp only [List.mapM_cons, Option.pure_def, Option.bind_eq_bind, Option.bind_eq_some_iff] at hy
  obtain ⟨y, h1, ys', h2, _⟩ := hy
  obtain ⟨x, hk, hg⟩ := h.op enc W fuel _ _ h1
  have hlz : cs.length = o + a.sz + b.sz := by rw [hl]; exact (Nat.add_assoc _ _ _).symm
  obtain ⟨z, hkz, hgz⟩ := hs.op enc W fuel cs ys' hlz h2
  rw [ho, h.size] at hk
  refine ⟨(x, z), ⟨_, _, ?_, hk, hkz⟩, hg, hgz⟩
  rw [← List.drop_drop, List.take_append_drop]
theorem opn_struct {P : Program} {t : TypeId} {fs : Array Field} {α : Type} {d : Kd α} {good : α → Prop} (ht : P.underlying t = some (.struct fs)) (hc : P.cellsOf t = d.sz) (h : OpnF P fs.toList 0 d good) : Opn P t d good := by
  refine ⟨hc, fun enc W fuel cs y hy => ?_⟩
  cases fuel with
  | zero => simp [DataW.trod] at hy
  | succ n =>
    unfold DataW.trod at hy
    rw [ht] at hy
    simp only [] at hy
    split at hy
    · rename_i hl
      obtain ⟨ys, hys, _⟩ := Option.map_eq_some_iff.1 hy
      have := h.op enc W n cs ys (by rw [hl, hc, Nat.zero_add]) hys
      simpa using this
    · cases hy
theorem opn_iso {P : Program} {t : TypeId} {α β : Type} {d : Kd α} {good : α → Prop} (h : Opn P t d good) (f : β → α) (g : α → β) (hfg : ∀ x, f (g x) = x) : Opn P t (Kd.iso d f) (fun y => good (f y)) := by
  refine ⟨h.size, fun enc W fuel cs y hy => ?_⟩
  obtain ⟨x, hk, hg⟩ := h.op enc W fuel cs y hy
  exact ⟨g x, by show d.K W (f (g x)) cs; rw [hfg]; exact hk, by rw [hfg]; exact hg⟩
/-- An argument, opened. -/
theorem Opn.arg {P : Program} {t : TypeId} {α : Type} {d : Kd α} {good : α → Prop} (h : Opn P t d good) {H : Type} {enc : TypeId × Value → H} {W : World} {v : Value} {y : DataW H} {ps : List MemPlace} (hv : DataW.Trod enc P W 0 (fun _ => true) true t v y ps) : ∃ x, d.K W x v.cells.toList ∧ good x := by
  obtain ⟨fuel, hf⟩ := hv
  exact h.op enc W fuel _ _ hf
/-- A slice that came in. -/
theorem slice_arg {P : Program} {t e : TypeId} {α : Type} {d : Kd α} {good : List α → Prop} (ht : P.underlying t = some (.slice e)) (h : Opn P t (Kd.slice e d) good) {H : Type} {enc : TypeId × Value → H} {W : World} {base : Nat} {v : Value} {y : DataW H} {ps : List MemPlace} (hv : Value.okWide P W .any base t v) (hd : DataW.Trod enc P W 0 (fun _ => true) true t v y ps) : ∃ A c xs, v = .slice A xs.length c ∧ xs.length ≤ c ∧ Kd.C d W A xs.length xs ∧ good xs := by
  obtain ⟨A, len, cap, rfl⟩ := Go.WideShapes.okWide_slice ht hv
  obtain ⟨xs, ⟨A', c', hcs, hl, hC⟩, hg⟩ := h.arg hd
  simp only [Value.cells, List.cons.injEq, Value.slice.injEq, and_true] at hcs
  obtain ⟨rfl, rfl, rfl⟩ := hcs
  exact ⟨A, cap, xs, rfl, hl, hC, hg⟩
/-- A struct that came in by value. -/
theorem struct_arg {P : Program} {t : TypeId} {fs : Array Field} {α : Type} {d : Kd α} {good : α → Prop} (ht : P.underlying t = some (.struct fs)) (h : Opn P t d good) {H : Type} {enc : TypeId × Value → H} {W : World} {base : Nat} {v : Value} {y : DataW H} {ps : List MemPlace} (hv : Value.okWide P W .any base t v) (hd : DataW.Trod enc P W 0 (fun _ => true) true t v y ps) : ∃ cs x, v = .agg cs ∧ d.K W x cs.toList ∧ good x := by
  obtain ⟨cs, rfl, _⟩ := Go.WideShapes.okWide_struct ht hv
  obtain ⟨x, hk, hg⟩ := h.arg hd
  exact ⟨cs, x, rfl, hk, hg⟩
/-- What nothing has touched reads as it did: all arguments at once. -/
theorem trodAll_below {H : Type} {enc : TypeId × Value → H} {P : Program} (hl : laidOutB P = true) {W W' : World} (hb : Below W.heap.size W W') : ∀ (ts : List TypeId) (vs : List Value) (ds : List (DataW H)) (ps : List MemPlace), (∀ t ∈ ts, P.readableRec t = true ∧ t < P.types.size) →
    DataW.TrodAll enc P W 0 (fun _ => true) true ts vs ds ps → (∀ x ∈ ps, x.block < W.heap.size) → DataW.TrodAll enc P W' 0 (fun b => decide (b < W.heap.size)) true ts vs ds ps
  | [], [], [], _, _, h, _ => h
  | t :: ts, v :: vs, d :: ds, ps, ht, h, hlt => by
    obtain ⟨p, q, h1, h2, rfl⟩ := h
    refine ⟨p, q, Below.trod hl (ht t List.mem_cons_self).1 (ht t List.mem_cons_self).2 h1 hb (fun x hx => hlt x (List.mem_append_left _ hx)), ?_, rfl⟩
    exact trodAll_below hl hb ts vs ds q (fun t' h' => ht t' (List.mem_cons_of_mem _ h')) h2 (fun x hx => hlt x (List.mem_append_right _ hx))
theorem trodAll_lt {H : Type} {enc : TypeId × Value → H} {P : Program} {W : World} : ∀ (ts : List TypeId) (vs : List Value) (ds : List (DataW H)) (ps : List MemPlace), DataW.TrodAll enc P W 0 (fun _ => true) true ts vs ds ps → ∀ x ∈ ps, x.block < W.heap.size
  | [], [], [], _, h, x, hx => by rw [show _ = [] from h] at hx; cases hx
  | t :: ts, v :: vs, d :: ds, ps, h, x, hx => by
    obtain ⟨p, q, ⟨fuel, h1⟩, h2, rfl⟩ := h
    rcases List.mem_append.1 hx with hx | hx
    · exact DataW.trod_lt fuel _ _ _ h1 x hx
    · exact trodAll_lt ts vs ds q h2 x hx
end Opens
end Go.Proofs.Ytbpadimcnamdpaa
