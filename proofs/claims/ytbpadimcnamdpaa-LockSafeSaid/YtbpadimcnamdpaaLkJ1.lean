/- Texts of this claim, joined: Opens, RowP, LkCmp, LkFind, LkClash, LkReady, LkIds, LkWho, LkConcat, LkSort, LkUnion, LkTab, LkAsk, LkGrant, LkAwake, LkNames, LkUnPure, LkLaw, LkNone, LkHold, LkDel, LkFree, LkWants, LkUnions, LkSt, LkDoes0, LkDoes1, LkDoes2, LkDoes. -/
import Derived.Test.YtbpadimcnamdpaaWWords
import Derived.Test.YtbpadimcnamdpaaWLast
import Derived.Deep.Slices
import Derived.ProofKit
import Derived.Carry
import Derived.KernelRfl
import Derived.Test.YtbpadimcnamdpaaRows
import Derived.WalkKit
import Derived.ShutString
import Derived.ChangeOld
import Derived.SizedLaws
import Derived.OpenShut
import Derived.Stop.Joined
import Derived.Test.YtbpadimcnamdpaaPKx2
import Derived.Laws.Cover1
import Derived.StillTailTactics
import Derived.Test.YtbpadimcnamdpaaLkLay
import Derived.Shelf.SlSortCmp.NoneTotal
import Derived.Deep.RegionLaw
import Derived.Test.YtbpadimcnamdpaaPKx4
import Derived.Test.YtbpadimcnamdpaaPKx3
import Derived.Test.YtbpadimcnamdpaaPKx5
import Derived.Test.YtbpadimcnamdpaaShelf
import Derived.Test.YtbpadimcnamdpaaWRepsOne
/- What an argument reads as, opened by its type: whole numbers, truths, texts, slices, structs, as deep as the type goes. -/
namespace Go.Proofs.Ytbpadimcnamdpaa
open Go.RowKit Go.Proofs.YtbpadimcnamdpaaW.PrintWords
namespace Opens
/-- Cells of type t that can be read as data hold a value of kind d, and it is good. -/
structure Opn (P : Program) (t : TypeId) {α : Type} (d : Kd α) (good : α → Prop) : Prop where
  size : P.cellsOf t = d.sz
  op : ∀ {H : Type} (enc : TypeId × Value → H) (W : World) (fuel : Nat) (cs : List Value) (y : DataW H × List MemPlace), DataW.trod enc P W 0 (fun _ => true) true fuel t cs = some y → ∃ x, d.K W x cs ∧ good x
theorem Opn.weaken {P : Program} {t : TypeId} {α : Type} {d : Kd α} {good good' : α → Prop} (h : Opn P t d good) (hg : ∀ x, good x → good' x) : Opn P t d good' :=
  ⟨h.size, fun enc W fuel cs y hy => let ⟨x, hk, hx⟩ := h.op enc W fuel cs y hy; ⟨x, hk, hg x hx⟩⟩
theorem opn_int {P : Program} {t : TypeId} {k : IntKind} (ht : P.underlying t = some (.int k)) (hc : P.cellsOf t = 1) : Opn P t (Kd.int k) (fun n => (Lit.int k n).wf = true) := by
  refine ⟨hc, fun enc W fuel cs y h => ?_⟩
  cases fuel with
  | zero => simp [DataW.trod] at h
  | succ n =>
    unfold DataW.trod at h
    rw [ht] at h
    split at h <;> simp_all
    obtain ⟨⟨rfl, hw⟩, _⟩ := h
    exact ⟨_, rfl, hw⟩
theorem opn_bool {P : Program} {t : TypeId} (ht : P.underlying t = some .bool) (hc : P.cellsOf t = 1) : Opn P t Kd.bool (fun _ => True) := by
  refine ⟨hc, fun enc W fuel cs y h => ?_⟩
  cases fuel with
  | zero => simp [DataW.trod] at h
  | succ n =>
    unfold DataW.trod at h
    rw [ht] at h
    split at h <;> first | exact ⟨_, rfl, trivial⟩ | simp_all
theorem opn_string {P : Program} {t : TypeId} (ht : P.underlying t = some .string) (hc : P.cellsOf t = 1) : Opn P t Kd.string (fun s => s.size ≤ maxLen) := by
  refine ⟨hc, fun enc W fuel cs y h => ?_⟩
  cases fuel with
  | zero => simp [DataW.trod] at h
  | succ n =>
    unfold DataW.trod at h
    rw [ht] at h
    split at h <;> simp_all
    exact ⟨_, rfl, h.1⟩
theorem opn_slice {P : Program} {t e : TypeId} {α : Type} {d : Kd α} {good : α → Prop} (ht : P.underlying t = some (.slice e)) (hc : P.cellsOf t = 1) (h : Opn P e d good) : Opn P t (Kd.slice e d) (fun xs => xs.length ≤ maxLen ∧ ∀ x ∈ xs, good x) := by
  refine ⟨hc, fun enc W fuel cs y hy => ?_⟩
  rcases Go.Deep.open_slice ht hy with ⟨rfl, _⟩ | ⟨a, len, cap, m, n, D, Pl, rfl, _, hl, hcap, hm, _, hel⟩
  · exact ⟨[], ⟨none, 0, rfl, Nat.le_refl _, rfl, Nat.zero_le _, fun h0 => absurd h0 (Nat.lt_irrefl _)⟩, Nat.zero_le _, by simp⟩
  have hmm : m = cap := by rw [hm]; rfl
  subst hmm
  have hx : ∀ i, i < len → ∃ x, (∃ cs', W.cells? 0 (a.add (i * P.cellsOf e)) (P.cellsOf e) = some cs' ∧ d.K W x cs') ∧ good x := fun i hi => by
    obtain ⟨cs', h1, h2⟩ := hel i (by omega)
    obtain ⟨x, hk, hg⟩ := h.op enc W n cs' _ h2
    exact ⟨x, ⟨cs', h1, hk⟩, hg⟩
  have hall : ∀ k, k ≤ len → ∃ xs : List α, xs.length = k ∧ (∀ (j : Nat) p, xs[j]? = some p → ∃ cs', W.cells? 0 (a.add (j * P.cellsOf e)) (P.cellsOf e) = some cs' ∧ d.K W p cs') ∧ ∀ x ∈ xs, good x := by
    intro k
    induction k with
    | zero => intro _; exact ⟨[], rfl, by simp, by simp⟩
    | succ k ih =>
      intro hk
      obtain ⟨xs, hlen, hcells, hgood⟩ := ih (by omega)
      obtain ⟨x, hxk, hxg⟩ := hx k (by omega)
      refine ⟨xs ++ [x], by simp [hlen], fun j p hj => ?_, fun z hz => ?_⟩
      · by_cases hjk : j < xs.length
        · rw [List.getElem?_append_left hjk] at hj
          exact hcells j p hj
        · have hje : j = k := by
            have := (List.getElem?_eq_some_iff.1 hj).1
            simp at this; omega
          subst hje
          rw [List.getElem?_append_right (by omega), hlen, Nat.sub_self] at hj
          obtain rfl : x = p := by simpa using hj
          exact hxk
      · rcases List.mem_append.1 hz with hz | hz
        · exact hgood z hz
        · rw [List.mem_singleton.1 hz]; exact hxg
  obtain ⟨xs, hlen, hcells, hgood⟩ := hall len (Nat.le_refl _)
  subst hlen
  refine ⟨xs, ⟨some a, m, rfl, hl, rfl, ?_, fun h0 => ⟨a, rfl, fun j p hj => ?_⟩⟩, by omega, hgood⟩
  · unfold maxLen at hcap; omega
  · obtain ⟨cs', h1, hk⟩ := hcells j p hj
    rw [h.size] at h1
    obtain ⟨_, hlen, hget⟩ := World.cells?_some h1
    refine ⟨cs', d.K_len hk, hk, fun i u hu => ?_⟩
    have hi : i < d.sz := by rw [← hlen]; exact (List.getElem?_eq_some_iff.1 hu).1
    have := hget i hi
    rw [hu, add_add] at this
    exact this
/-- Fields, the first of which begins at cell o. -/
structure OpnF (P : Program) (fs : List Field) (o : Nat) {α : Type} (d : Kd α) (good : α → Prop) : Prop where
  op : ∀ {H : Type} (enc : TypeId × Value → H) (W : World) (fuel : Nat) (cs : List Value) (ys : List (DataW H × List MemPlace)), cs.length = o + d.sz → (fs.mapM fun f => DataW.trod enc P W 0 (fun _ => true) true fuel f.type ((cs.drop f.offset).take (P.cellsOf f.type))) = some ys → ∃ x, d.K W x (cs.drop o) ∧ good x
theorem opnF_one {P : Program} {f : Field} {o : Nat} {α : Type} {d : Kd α} {good : α → Prop} (ho : f.offset = o) (h : Opn P f.type d good) : OpnF P [f] o d good := by
  refine ⟨fun enc W fuel cs ys hl hy => ?_⟩
  simp only [List.mapM_cons, List.mapM_nil, Option.pure_def, Option.bind_eq_bind, Option.bind_eq_some_iff] at hy
  obtain ⟨y, h1, _⟩ := hy
  obtain ⟨x, hk, hg⟩ := h.op enc W fuel _ _ h1
  rw [ho, h.size, List.take_of_length_le (by simp; omega)] at hk
  exact ⟨x, hk, hg⟩
theorem opnF_cons {P : Program} {f : Field} {fs : List Field} {o : Nat} {α β : Type} {a : Kd α} {b : Kd β} {ga : α → Prop} {gb : β → Prop} (ho : f.offset = o) (h : Opn P f.type a ga) (hs : OpnF P fs (o + a.sz) b gb) : OpnF P (f :: fs) o (Kd.pair a b) (fun x => ga x.1 ∧ gb x.2) := by
  refine ⟨fun enc W fuel cs ys hl hy => ?_⟩
  simp only [List.mapM_cons, Option.pure_def, Option.bind_eq_bind, Option.bind_eq_some_iff] at hy
  obtain ⟨y, h1, ys', h2, _⟩ := hy
  obtain ⟨x, hk, hg⟩ := h.op enc W fuel _ _ h1
  have hlz : cs.length = o + a.sz + b.sz := by rw [hl]; exact (Nat.add_assoc _ _ _).symm
  obtain ⟨z, hkz, hgz⟩ := hs.op enc W fuel cs ys' hlz h2
  rw [ho, h.size] at hk
  refine ⟨(x, z), ⟨_, _, ?_, hk, hkz⟩, hg, hgz⟩
  rw [← List.drop_drop, List.take_append_drop]
theorem opn_struct {P : Program} {t : TypeId} {fs : Array Field} {α : Type} {d : Kd α} {good : α → Prop} (ht : P.underlying t = some (.struct fs)) (hc : P.cellsOf t = d.sz) (h : OpnF P fs.toList 0 d good) : Opn P t d good := by
  refine ⟨hc, fun enc W fuel cs y hy => ?_⟩
  cases fuel with
  | zero => simp [DataW.trod] at hy
  | succ n =>
    unfold DataW.trod at hy
    rw [ht] at hy
    simp only [] at hy
    split at hy
    · rename_i hl
      obtain ⟨ys, hys, _⟩ := Option.map_eq_some_iff.1 hy
      have := h.op enc W n cs ys (by rw [hl, hc, Nat.zero_add]) hys
      simpa using this
    · cases hy
theorem opn_iso {P : Program} {t : TypeId} {α β : Type} {d : Kd α} {good : α → Prop} (h : Opn P t d good) (f : β → α) (g : α → β) (hfg : ∀ x, f (g x) = x) : Opn P t (Kd.iso d f) (fun y => good (f y)) := by
  refine ⟨h.size, fun enc W fuel cs y hy => ?_⟩
  obtain ⟨x, hk, hg⟩ := h.op enc W fuel cs y hy
  exact ⟨g x, by show d.K W (f (g x)) cs; rw [hfg]; exact hk, by rw [hfg]; exact hg⟩
/-- An argument, opened. -/
theorem Opn.arg {P : Program} {t : TypeId} {α : Type} {d : Kd α} {good : α → Prop} (h : Opn P t d good) {H : Type} {enc : TypeId × Value → H} {W : World} {v : Value} {y : DataW H} {ps : List MemPlace} (hv : DataW.Trod enc P W 0 (fun _ => true) true t v y ps) : ∃ x, d.K W x v.cells.toList ∧ good x := by
  obtain ⟨fuel, hf⟩ := hv
  exact h.op enc W fuel _ _ hf
/-- A slice that came in. -/
theorem slice_arg {P : Program} {t e : TypeId} {α : Type} {d : Kd α} {good : List α → Prop} (ht : P.underlying t = some (.slice e)) (h : Opn P t (Kd.slice e d) good) {H : Type} {enc : TypeId × Value → H} {W : World} {base : Nat} {v : Value} {y : DataW H} {ps : List MemPlace} (hv : Value.okWide P W .any base t v) (hd : DataW.Trod enc P W 0 (fun _ => true) true t v y ps) : ∃ A c xs, v = .slice A xs.length c ∧ xs.length ≤ c ∧ Kd.C d W A xs.length xs ∧ good xs := by
  obtain ⟨A, len, cap, rfl⟩ := Go.WideShapes.okWide_slice ht hv
  obtain ⟨xs, ⟨A', c', hcs, hl, hC⟩, hg⟩ := h.arg hd
  simp only [Value.cells, List.cons.injEq, Value.slice.injEq, and_true] at hcs
  obtain ⟨rfl, rfl, rfl⟩ := hcs
  exact ⟨A, cap, xs, rfl, hl, hC, hg⟩
/-- A struct that came in by value. -/
theorem struct_arg {P : Program} {t : TypeId} {fs : Array Field} {α : Type} {d : Kd α} {good : α → Prop} (ht : P.underlying t = some (.struct fs)) (h : Opn P t d good) {H : Type} {enc : TypeId × Value → H} {W : World} {base : Nat} {v : Value} {y : DataW H} {ps : List MemPlace} (hv : Value.okWide P W .any base t v) (hd : DataW.Trod enc P W 0 (fun _ => true) true t v y ps) : ∃ cs x, v = .agg cs ∧ d.K W x cs.toList ∧ good x := by
  obtain ⟨cs, rfl, _⟩ := Go.WideShapes.okWide_struct ht hv
  obtain ⟨x, hk, hg⟩ := h.arg hd
  exact ⟨cs, x, rfl, hk, hg⟩
/-- What nothing has touched reads as it did: all arguments at once. -/
theorem trodAll_below {H : Type} {enc : TypeId × Value → H} {P : Program} (hl : laidOutB P = true) {W W' : World} (hb : Below W.heap.size W W') : ∀ (ts : List TypeId) (vs : List Value) (ds : List (DataW H)) (ps : List MemPlace), (∀ t ∈ ts, P.readableRec t = true ∧ t < P.types.size) →
    DataW.TrodAll enc P W 0 (fun _ => true) true ts vs ds ps → (∀ x ∈ ps, x.block < W.heap.size) → DataW.TrodAll enc P W' 0 (fun b => decide (b < W.heap.size)) true ts vs ds ps
  | [], [], [], _, _, h, _ => h
  | t :: ts, v :: vs, d :: ds, ps, ht, h, hlt => by
    obtain ⟨p, q, h1, h2, rfl⟩ := h
    refine ⟨p, q, Below.trod hl (ht t List.mem_cons_self).1 (ht t List.mem_cons_self).2 h1 hb (fun x hx => hlt x (List.mem_append_left _ hx)), ?_, rfl⟩
    exact trodAll_below hl hb ts vs ds q (fun t' h' => ht t' (List.mem_cons_of_mem _ h')) h2 (fun x hx => hlt x (List.mem_append_right _ hx))
theorem trodAll_lt {H : Type} {enc : TypeId × Value → H} {P : Program} {W : World} : ∀ (ts : List TypeId) (vs : List Value) (ds : List (DataW H)) (ps : List MemPlace), DataW.TrodAll enc P W 0 (fun _ => true) true ts vs ds ps → ∀ x ∈ ps, x.block < W.heap.size
  | [], [], [], _, h, x, hx => by rw [show _ = [] from h] at hx; cases hx
  | t :: ts, v :: vs, d :: ds, ps, h, x, hx => by
    obtain ⟨p, q, ⟨fuel, h1⟩, h2, rfl⟩ := h
    rcases List.mem_append.1 hx with hx | hx
    · exact DataW.trod_lt fuel _ _ _ h1 x hx
    · exact trodAll_lt ts vs ds q h2 x hx
end Opens
end Go.Proofs.Ytbpadimcnamdpaa
/- From a law's walk to its row: whatever the arguments' types. -/
namespace Go.Proofs.Ytbpadimcnamdpaa
open Go.ChangeShapes Go.WideShapes Go.ChangeAt Go.RowKit
theorem ownKnobNone : ownKnob Try.prog.godebug = none := by kernel_rfl
theorem laidOutProg : laidOutB Try.prog = true := by kernel_rfl
/-- What a law is answered: true, the arguments as they were. -/
theorem post_true {H : Type} {enc : TypeId × Value → H} {fn : Func} {spec : ChangeSpec} {W W' : World} {args : Array Value} {ds gs : List (DataW H)} {before : List MemPlace} (tb : TypeId)
    (hvars : spec.vars = []) (hres : fn.resultTypes = #[tb]) (htb : Try.prog.underlying tb = some .bool)
    (hfn : spec.fn H (ds ++ gs) = { results := [.lit (.bool true)], args := ds })
    (hread : (fn.params.toList.all fun t => Try.prog.readableRec t && decide (t < Try.prog.types.size)) = true)
    (hW : DataW.Whole enc Try.prog fn.params.toList spec.vars false W args.toList ds gs before) (hb : Below W.heap.size W W') :
    spec.post enc Try.prog fn false true false false W args (.bool true) W' := by
  have hW' := hW
  obtain ⟨p, q, hA, hV, _, _, _⟩ := hW
  rw [hvars] at hV
  obtain ⟨rfl, rfl⟩ := trodVars_none hV
  have hread' : ∀ t ∈ fn.params.toList, Try.prog.readableRec t = true ∧ t < Try.prog.types.size := fun t ht => by
    have := List.all_eq_true.1 hread t ht
    simpa using this
  refine ⟨ds, [], before, [], p, [], hW', ?_, ?_, ?_, hb.frame _, fun h => by cases h⟩
  · rw [hfn, hres]
    exact trodAll_mk1 (shut_bool htb _)
  · rw [hfn]
    exact Opens.trodAll_below laidOutProg hb _ _ _ _ hread' hA (Opens.trodAll_lt _ _ _ _ hA)
  · rw [hfn, hvars]; rfl
end Go.Proofs.Ytbpadimcnamdpaa
/- lock: comparisons of names. -/
namespace Go.Proofs.Ytbpadimcnamdpaa.PK
open Go.RowKit Go.Proofs.YtbpadimcnamdpaaW.PrintWords Go.Proofs.YtbpadimcnamdpaaW.PrintLast Go.Proofs.YtbpadimcnamdpaaW.PrintMore
set_option maxRecDepth 100000 in
theorem nan_calls (a : ByteArray) (w : World) : Calls Try.prog 39 #[.string a] w fun e w' => e = .returned (.bool false) ∧ w' = w := by
  go_enter Try.func39, Try.ntmps39
  go_wp2
  go_ret
  exact ⟨by simp, rfl⟩
def cmpS (a b : ByteArray) : Int := if Op.bytesLess a.toList b.toList = true then -1 else if a.toList = b.toList then 0 else 1
set_option maxRecDepth 100000 in
theorem cmp_calls (a b : ByteArray) (r : Int) (hr : Aside0 (r = cmpS a b)) (w : World) : Calls Try.prog 25 #[.string a, .string b] w fun e w' => e = .returned (.int .i64 r) ∧ w' = w := by
  go_enter Try.func25, Try.ntmps25
  go_wp2_with fail
  refine (nan_calls a w).mono ?_
  rintro e w1 ⟨rfl, rfl⟩
  go_wp2_with fail
  refine (nan_calls b w1).mono ?_
  rintro e w2 ⟨rfl, rfl⟩
  by_cases h1 : Op.bytesLess a.toList b.toList = true
  · go_wp2
    go_ret
    exact ⟨by rw [hr.out]; unfold cmpS; rw [if_pos h1]; rfl, rfl⟩
  · replace h1 := Bool.eq_false_iff.mpr h1
    by_cases h2 : a.toList = b.toList
    · have h3 : (a.toList == b.toList) = true := beq_iff_eq.2 h2
      have H2 := Aside0.mk h2
      clear h2
      go_wp2
      go_ret
      exact ⟨by rw [hr.out]; unfold cmpS; rw [if_neg (by rw [h1]; decide), if_pos H2.out]; rfl, rfl⟩
    · have h3 : (a.toList == b.toList) = false := beq_eq_false_iff_ne.2 h2
      have H2 := Aside0.mk h2
      clear h2
      go_wp2
      go_ret
      exact ⟨by rw [hr.out]; unfold cmpS; rw [if_neg (by rw [h1]; decide), if_neg H2.out]; rfl, rfl⟩
theorem cmp_callsD (a b : ByteArray) (r : Int) (hr : Aside0 (r = cmpS a b)) (w : World) : Calls Try.prog 25 #[.string a, .string b] w fun e w' => e = .returned (.int .i64 r) ∧ Drawn0 w w' :=
  (cmp_calls a b r hr w).mono fun _ _ ⟨h, e⟩ => ⟨h, ⟨0, e⟩⟩
end Go.Proofs.Ytbpadimcnamdpaa.PK
/- lock: where an ask lies. -/
namespace Go.Proofs.Ytbpadimcnamdpaa.PK
open Go.RowKit Go.Proofs.YtbpadimcnamdpaaW.PrintWords Go.Proofs.YtbpadimcnamdpaaW.PrintLast Go.Proofs.YtbpadimcnamdpaaW.PrintMore
set_option maxRecDepth 100000 in
theorem find1_calls (v : Value) (id a : Int) (hd : Bool) (g : Nat) (w : World) (hg : w.cell? ⟨g, 0, none⟩ = some (.int .i64 a)) (hlt : g < w.heap.size) :
    Calls Try.prog 43 #[.agg #[v, .int .i64 id, .bool hd], .pointer (some ⟨g, 0, none⟩)] w fun e w' => e = .returned (.bool (id == a)) ∧ Below w.heap.size w w' := by
  go_enter Try.func43, Try.ntmps43
  go_wp2
  go_ret
  exact ⟨rfl, below_alloc (Below.refl _ _) _⟩
/-- The place of the ask with a number; -1: there is none. -/
def findI (l : List S61) (a : Int) : Int := match l.findIdx? (fun x => x.f1 == a) with | some i => (i : Int) | none => -1
theorem rd61_at (l : List S61) (i : Nat) (h : i < l.length) : rd_T61 l (i : Int) = l[i] := by simp [rd_T61, List.getD, h]
theorem findI_some (l : List S61) (a : Int) (k : Nat) (hk : k < l.length) (h : l[k].f1 = a) (hj : ∀ j (hj : j < l.length), j < k → l[j].f1 ≠ a) : findI l a = (k : Int) := by
  unfold findI
  have : l.findIdx? (fun x => x.f1 == a) = some k := by
    rw [List.findIdx?_eq_some_iff_getElem]
    exact ⟨hk, by simpa using h, fun j hjk => by simpa using hj j (by omega) hjk⟩
  rw [this]
theorem findI_none (l : List S61) (a : Int) (hj : ∀ j (hj : j < l.length), l[j].f1 ≠ a) : findI l a = -1 := by
  unfold findI
  have : l.findIdx? (fun x => x.f1 == a) = none := by
    rw [List.findIdx?_eq_none_iff]
    intro x hx
    obtain ⟨j, hjl, rfl⟩ := List.getElem_of_mem hx
    simpa using hj j hjl
  rw [this]
set_option maxRecDepth 100000 in
theorem idx_calls (g : Nat) (a r : Int) (A : Option Addr) (c : Nat) (l : List S61) (w : World) (hg : w.cell? ⟨g, 0, none⟩ = some (.int .i64 a)) (hlt : g < w.heap.size) (hC : Kd.C k61 w A l.length l) (hr : Aside0 (r = findI l a)) :
    Calls Try.prog 42 #[.slice A l.length c, .func (.func 43) #[] #[.pointer (some ⟨g, 0, none⟩)]] w fun e w' => e = .returned (.int .i64 r) ∧ Below w.heap.size w w' := by
  have HC := Aside0.mk hC
  have hmax := Kd.C_max hC
  clear hC
  have HG := Aside0.mk hg
  have HL := Aside0.mk hlt
  clear hg hlt
  go_enter Try.func42, Try.ntmps42
  go_wp2
  go_loopg [8] (l.length + 1) (fun kq v8 w' => ∃ k : Nat, v8 = .int .i64 k ∧ Aside0 (k + kq = l.length + 1) ∧ k ≤ l.length ∧ Aside0 (∀ j (hj : j < l.length), j < k → l[j].f1 ≠ a) ∧ Aside0 (Below w.heap.size w w'))
  case atStart => exact ⟨0, rfl, ⟨by omega⟩, Nat.zero_le _, ⟨fun j _ h => absurd h (Nat.not_lt_zero _)⟩, ⟨Below.refl _ _⟩⟩
  case round =>
    obtain ⟨k, rfl, HK, hk, HJ, HB⟩ := hrel
    cases gk with
    | zero => exact absurd HK.out (by omega)
    | succ k1 =>
      by_cases hkl : k < l.length
      · obtain ⟨ad, A1, c1, e0, hx0, hx1, hx2, hl1, hi1⟩ := at_T61 (Kd.C_below HC.out HB.out) (k : Int) (by omega) (by omega)
        cases e0
        have HX := Aside0.mk (rd61_at l k hkl)
        clear hl1 hi1
        generalize rd_T61 l (k : Int) = x at hx0 hx1 hx2 HX
        simp only [Int.toNat_natCast] at hx0 hx1 hx2
        go_wp2_with fail
        refine (find1_calls _ _ a _ g wr (by rw [HB.out.cell HL.out]; exact HG.out) (Nat.lt_of_lt_of_le HL.out HB.out.size)).mono ?_
        rintro e w1 ⟨rfl, hb1⟩
        have HB1 := Aside0.mk (below_step HB.out hb1)
        clear hb1
        by_cases hxa : x.f1 = a
        · have hxa1 : (x.f1 == a) = true := beq_iff_eq.2 hxa
          have HR : Aside0 (r = (k : Int)) := ⟨by rw [hr.out]; exact findI_some l a k hkl (by rw [← HX.out]; exact hxa) HJ.out⟩
          clear hxa
          go_wp2
          go_ret
          exact ⟨by rw [HR.out]; rfl, HB1.out⟩
        · have hxa1 : (x.f1 == a) = false := beq_eq_false_iff_ne.2 hxa
          have HN : Aside0 (∀ j (hj : j < l.length), j < k + 1 → l[j].f1 ≠ a) := ⟨fun j hj hjk => by
            by_cases e : j = k
            · subst e; rw [← HX.out]; exact hxa
            · exact HJ.out j hj (by omega)⟩
          clear hxa
          go_wp2
          go_roundg k1
          case measure => have := HK.out; omega
          case rel => exact ⟨k + 1, by go_num, ⟨by have := HK.out; omega⟩, by omega, HN, HB1⟩
      · have HR : Aside0 (r = -1) := ⟨by rw [hr.out]; exact findI_none l a (fun j hj => HJ.out j hj (by omega))⟩
        go_wp2
        go_ret
        exact ⟨by rw [HR.out]; rfl, HB.out⟩
set_option maxRecDepth 100000 in
theorem find_calls (g : Nat) (a r : Int) (A : Option Addr) (c : Nat) (l : List S61) (w : World) (hg : w.cell? ⟨g, 0, none⟩ = some (.slice A l.length c)) (hC : Kd.C k61 w A l.length l) (hr : Aside0 (r = findI l a)) :
    Calls Try.prog 31 #[.pointer (some ⟨g, 0, none⟩), .int .i64 a] w fun e w' => e = .returned (.int .i64 r) ∧ Below w.heap.size w w' := by
  have HC := Aside0.mk hC
  clear hC
  have hlt : g < w.heap.size := by
    unfold World.cell? at hg
    by_cases h : g < w.heap.size
    · exact h
    · rw [Array.getElem?_eq_none (by simpa using h)] at hg; simp at hg
  go_enter Try.func31, Try.ntmps31
  go_wp2_with fail
  refine (idx_calls w.heap.size a r A c l _ (blk_cell (blk_new w _) 0) (by show w.heap.size < (w.heap.push _).size; rw [Array.size_push]; omega) (Kd.C_alloc HC.out _) hr).mono ?_
  rintro e w1 ⟨rfl, hb1⟩
  have HB1 := Aside0.mk (below_step (below_alloc (Below.refl w.heap.size w) _) hb1)
  clear hb1
  go_wp2_with fail
  go_ret
  exact ⟨rfl, HB1.out⟩
end Go.Proofs.Ytbpadimcnamdpaa.PK
/- lock: do two lists of wants, rising by names, clash? -/
namespace Go.Proofs.Ytbpadimcnamdpaa.PK
open Go.RowKit Go.Proofs.YtbpadimcnamdpaaW.PrintWords Go.Proofs.YtbpadimcnamdpaaW.PrintLast Go.Proofs.YtbpadimcnamdpaaW.PrintMore
abbrev W := S31
def clash1 (x y : W) : Bool := decide (x.f0.toList = y.f0.toList) && (x.f1 || y.f1)
theorem clash1_f (x y : W) : lock_Clash.f x.f0 x.f1 y.f0 y.f1 = some (clash1 x y) := by
  unfold lock_Clash.f clash1
  by_cases h : x.f0.toList = y.f0.toList
  · rw [if_pos h, decide_eq_true h]
    cases x.f1 <;> rfl
  · rw [if_neg h, decide_eq_false h]
    rfl
/-- Two lists that rise by names. -/
def clashL : List W → List W → Bool
  | [], _ => false
  | _ :: _, [] => false
  | x :: xs, y :: ys => if cmpS x.f0 y.f0 = -1 then clashL xs (y :: ys) else if cmpS x.f0 y.f0 = 1 then clashL (x :: xs) ys else if clash1 x y = true then true else clashL xs ys
termination_by a b => a.length + b.length
theorem clashL_nil (b : List W) : clashL [] b = false := by rw [clashL]
theorem clashL_nil2 (a : List W) : clashL a [] = false := by cases a <;> rw [clashL]
theorem clashL_cons (x y : W) (xs ys : List W) : clashL (x :: xs) (y :: ys) = if cmpS x.f0 y.f0 = -1 then clashL xs (y :: ys) else if cmpS x.f0 y.f0 = 1 then clashL (x :: xs) ys else if clash1 x y = true then true else clashL xs ys := by rw [clashL]
theorem rd31_at (l : List W) (i : Nat) (h : i < l.length) : rd_T31 l (i : Int) = l[i] := by simp [rd_T31, List.getD, h]
theorem drop31 (l : List W) (i : Nat) (h : i < l.length) : l.drop i = rd_T31 l (i : Int) :: l.drop (i + 1) := by rw [rd31_at l i h, List.drop_eq_getElem_cons h]
set_option maxHeartbeats 1000000 in
set_option maxRecDepth 100000 in
theorem clash_calls (A B : Option Addr) (c d : Nat) (a b : List W) (r : Bool) (w : World) (hA : Kd.C k31 w A a.length a) (hB : Kd.C k31 w B b.length b) (hr : Aside0 (r = clashL a b)) :
    Calls Try.prog 44 #[.agg #[.slice A a.length c], .agg #[.slice B b.length d]] w fun e w' => e = .returned (.bool r) ∧ Below w.heap.size w w' := by
  have HCA := Aside0.mk hA
  have HCB := Aside0.mk hB
  have hma := Kd.C_max hA
  have hmb := Kd.C_max hB
  clear hA hB
  go_enter Try.func44, Try.ntmps44
  go_wp2
  have hb2 := blk_new w (.cells #[.slice A a.length c] 59)
  have hb3 := blk_new (w.alloc (.cells #[.slice A a.length c] 59)) (.cells #[.slice B b.length d] 59)
  have hc2 : ((w.alloc (.cells #[.slice A a.length c] 59)).alloc (.cells #[.slice B b.length d] 59)).cell? ⟨w.heap.size, 0, none⟩ = some (.slice A a.length c) := blk_cell (blk_alloc hb2 _) 0
  have hs1 : (w.alloc (.cells #[.slice A a.length c] 59)).heap.size = w.heap.size + 1 := by show (w.heap.push _).size = _; rw [Array.size_push]
  have hc3 : ((w.alloc (.cells #[.slice A a.length c] 59)).alloc (.cells #[.slice B b.length d] 59)).cell? ⟨w.heap.size + 1, 0, none⟩ = some (.slice B b.length d) := by rw [← hs1]; exact blk_cell hb3 0
  have hs2 : w.heap.size + 1 < ((w.alloc (.cells #[.slice A a.length c] 59)).alloc (.cells #[.slice B b.length d] 59)).heap.size := by
    show _ < ((w.heap.push _).push _).size
    rw [Array.size_push, Array.size_push]; omega
  have HB0 : Aside0 (Below w.heap.size w ((w.alloc (.cells #[.slice A a.length c] 59)).alloc (.cells #[.slice B b.length d] 59))) := ⟨below_alloc (below_alloc (Below.refl _ _) _) _⟩
  clear hb2 hb3 hs1
  generalize (w.alloc (.cells #[.slice A a.length c] 59)).alloc (.cells #[.slice B b.length d] 59) = w0 at hc2 hc3 hs2 HB0 ⊢
  go_loopg [5, 6] (a.length + b.length + 1) (fun kq v5 v6 w' => ∃ i k : Nat, v5 = .int .i64 i ∧ v6 = .int .i64 k ∧ Aside0 (a.length + b.length + 1 ≤ i + k + kq) ∧ i ≤ a.length ∧ k ≤ b.length ∧ Aside0 (clashL (a.drop i) (b.drop k) = r) ∧ w'.cell? ⟨w.heap.size, 0, none⟩ = some (.slice A a.length c) ∧ w'.cell? ⟨w.heap.size + 1, 0, none⟩ = some (.slice B b.length d) ∧ w.heap.size + 1 < w'.heap.size ∧ Aside0 (Below w.heap.size w w'))
  case atStart => exact ⟨0, 0, rfl, rfl, ⟨by omega⟩, Nat.zero_le _, Nat.zero_le _, ⟨by rw [hr.out]; rfl⟩, hc2, hc3, hs2, HB0⟩
  case round =>
    clear hc2 hc3 hs2 HB0
    obtain ⟨i, k, rfl, rfl, HK, hi, hk, HR, hc2, hc3, hs2, HB⟩ := hrel
    cases gk with
    | zero => exact absurd HK.out (by omega)
    | succ k1 =>
      by_cases hil : i < a.length
      · by_cases hkl : k < b.length
        · obtain ⟨adA, eA, hxa0, hxa1⟩ := at_T31 (Kd.C_below HCA.out HB.out) (i : Int) (by omega) (by omega)
          obtain ⟨adB, eB, hxb0, hxb1⟩ := at_T31 (Kd.C_below HCB.out HB.out) (k : Int) (by omega) (by omega)
          cases eA
          cases eB
          have HDA := Aside0.mk (drop31 a i hil)
          have HDB := Aside0.mk (drop31 b k hkl)
          generalize rd_T31 a (i : Int) = x at hxa0 hxa1 HDA
          generalize rd_T31 b (k : Int) = y at hxb0 hxb1 HDB
          simp only [Int.toNat_natCast] at hxa0 hxa1 hxb0 hxb1
          obtain ⟨r0, hr0⟩ : ∃ r0, r0 = cmpS x.f0 y.f0 := ⟨_, rfl⟩
          have HR0 := Aside0.mk hr0
          clear hr0
          go_wp2_with fail
          go_quiet (first | (go_at_call 25; (refine (cmp_callsD _ _ r0 HR0 _).mono ?_); rintro e w' ⟨rfl, ⟨nd, rfl⟩⟩; (try first | exact ⟨rfl, _, World.drewN_drewN _ _ _⟩ | exact ⟨rfl, _, Eq.trans (World.drewN_drewN _ _ _) (congrArg (World.drewN _) (Nat.add_assoc _ _ _))⟩)))
          replace hc2 : (wr.drewN nq).cell? ⟨w.heap.size, 0, none⟩ = some (.slice (some adA) a.length c) := hc2
          replace hc3 : (wr.drewN nq).cell? ⟨w.heap.size + 1, 0, none⟩ = some (.slice (some adB) b.length d) := hc3
          replace hs2 : w.heap.size + 1 < (wr.drewN nq).heap.size := hs2
          replace hxa0 : (wr.drewN nq).cell? (adA.add (i * 2)) = some (.string x.f0) := hxa0
          replace hxa1 : (wr.drewN nq).cell? ⟨(adA.add (i * 2)).block, (adA.add (i * 2)).off + 1, none⟩ = some (.bool x.f1) := hxa1
          replace hxb0 : (wr.drewN nq).cell? (adB.add (k * 2)) = some (.string y.f0) := hxb0
          replace hxb1 : (wr.drewN nq).cell? ⟨(adB.add (k * 2)).block, (adB.add (k * 2)).off + 1, none⟩ = some (.bool y.f1) := hxb1
          replace HB : Aside0 (Below w.heap.size w (wr.drewN nq)) := ⟨pw_below_drewN HB.out nq⟩
          generalize wr.drewN nq = wd at hc2 hc3 hs2 hxa0 hxa1 hxb0 hxb1 HB ⊢
          have HC := Aside0.mk (clashL_cons x y (a.drop (i + 1)) (b.drop (k + 1)))
          rw [HDA.out, HDB.out] at HR
          rw [HC.out, ← HR0.out] at HR
          have hHR := HR.out
          clear HR
          by_cases h1 : r0 = -1
          · have hR : clashL (a.drop (i + 1)) (y :: b.drop (k + 1)) = r := by rw [if_pos h1] at hHR; exact hHR
            rw [← HDB.out] at hR
            have HR2 := Aside0.mk hR
            clear hR hHR HC HDA HDB
            subst h1
            go_wp2
            go_roundg k1
            case measure => have := HK.out; omega
            case rel => exact ⟨i + 1, k, by go_num, rfl, ⟨by have := HK.out; omega⟩, by omega, by omega, HR2, hc2, hc3, hs2, HB⟩
          · by_cases h2 : r0 = 1
            · have hR : clashL (x :: a.drop (i + 1)) (b.drop (k + 1)) = r := by rw [if_neg h1, if_pos h2] at hHR; exact hHR
              rw [← HDA.out] at hR
              have HR2 := Aside0.mk hR
              clear hR hHR HC HDA HDB
              subst h2
              clear h1
              go_wp2
              go_roundg k1
              case measure => have := HK.out; omega
              case rel => exact ⟨i, k + 1, rfl, by go_num, ⟨by have := HK.out; omega⟩, by omega, by omega, HR2, hc2, hc3, hs2, HB⟩
            · have HR2 : Aside0 ((if clash1 x y = true then true else clashL (a.drop (i + 1)) (b.drop (k + 1))) = r) := ⟨by rw [if_neg h1, if_neg h2] at hHR; exact hHR⟩
              clear hHR HC HDA HDB
              have e1 : (r0 == -1) = false := beq_eq_false_iff_ne.2 h1
              have e2 : (r0 == 1) = false := beq_eq_false_iff_ne.2 h2
              clear h1 h2
              have mc2 : (World.mk wd.heap wd.tape (wd.drawn + 1) wd.os wd.output).cell? ⟨w.heap.size, 0, none⟩ = some (.slice (some adA) a.length c) := hc2
              have mc3 : (World.mk wd.heap wd.tape (wd.drawn + 1) wd.os wd.output).cell? ⟨w.heap.size + 1, 0, none⟩ = some (.slice (some adB) b.length d) := hc3
              have ma0 : (World.mk wd.heap wd.tape (wd.drawn + 1) wd.os wd.output).cell? (adA.add (i * 2)) = some (.string x.f0) := hxa0
              have ma1 : (World.mk wd.heap wd.tape (wd.drawn + 1) wd.os wd.output).cell? ⟨(adA.add (i * 2)).block, (adA.add (i * 2)).off + 1, none⟩ = some (.bool x.f1) := hxa1
              have mb0 : (World.mk wd.heap wd.tape (wd.drawn + 1) wd.os wd.output).cell? (adB.add (k * 2)) = some (.string y.f0) := hxb0
              have mb1 : (World.mk wd.heap wd.tape (wd.drawn + 1) wd.os wd.output).cell? ⟨(adB.add (k * 2)).block, (adB.add (k * 2)).off + 1, none⟩ = some (.bool y.f1) := hxb1
              go_wp2
              go_still_tail 10, (by kernel_rfl)
              change wpList _ _ _ _ _ wd.drew
              clear mc2 mc3 ma0 ma1 mb0 mb1
              replace hc2 : wd.drew.cell? ⟨w.heap.size, 0, none⟩ = some (.slice (some adA) a.length c) := hc2
              replace hc3 : wd.drew.cell? ⟨w.heap.size + 1, 0, none⟩ = some (.slice (some adB) b.length d) := hc3
              replace hs2 : w.heap.size + 1 < wd.drew.heap.size := hs2
              replace HB : Aside0 (Below w.heap.size w wd.drew) := ⟨below_drew HB.out⟩
              clear hxa0 hxa1 hxb0 hxb1
              generalize wd.drew = we at hc2 hc3 hs2 HB ⊢
              go_wp2_with fail
              refine (lock_Clash.calls _ _ _ _ (clash1 x y) _ (clash1_f x y)).mono ?_
              rintro e w5 ⟨rfl, hb5⟩
              have HB5 := Aside0.mk (below_step HB.out hb5)
              replace hc2 := (hb5.cell (p := ⟨w.heap.size, 0, none⟩) (Nat.lt_of_succ_lt hs2)).trans hc2
              replace hc3 := (hb5.cell (p := ⟨w.heap.size + 1, 0, none⟩) hs2).trans hc3
              replace hs2 := Nat.lt_of_lt_of_le hs2 hb5.size
              clear hb5 HB
              cases hcl : clash1 x y with
              | true =>
                have HR3 : Aside0 (r = true) := ⟨by rw [← HR2.out, hcl]; rfl⟩
                clear HR2
                go_wp2
                go_ret
                exact ⟨by rw [HR3.out]; rfl, HB5.out⟩
              | false =>
                have HR3 : Aside0 (clashL (a.drop (i + 1)) (b.drop (k + 1)) = r) := ⟨by rw [← HR2.out, hcl]; rfl⟩
                clear HR2
                go_wp2
                go_roundg k1
                case measure => have := HK.out; omega
                case rel => exact ⟨i + 1, k + 1, by go_num, by go_num, ⟨by have := HK.out; omega⟩, by omega, by omega, HR3, hc2, hc3, hs2, HB5⟩
        · have HR3 : Aside0 (r = false) := ⟨by rw [← HR.out, List.drop_eq_nil_of_le (by omega : b.length ≤ k), clashL_nil2]⟩
          go_wp2
          go_ret
          exact ⟨by rw [HR3.out]; rfl, HB.out⟩
      · have HR3 : Aside0 (r = false) := ⟨by rw [← HR.out, List.drop_eq_nil_of_le (by omega : a.length ≤ i), clashL_nil]⟩
        go_wp2
        go_ret
        exact ⟨by rw [HR3.out]; rfl, HB.out⟩
end Go.Proofs.Ytbpadimcnamdpaa.PK
/- lock: is the ask at a place ready? -/
namespace Go.Proofs.Ytbpadimcnamdpaa.PK
open Go.RowKit Go.Proofs.YtbpadimcnamdpaaW.PrintWords Go.Proofs.YtbpadimcnamdpaaW.PrintLast Go.Proofs.YtbpadimcnamdpaaW.PrintMore
abbrev Ask := S61
def blocks (l : List Ask) (i k : Nat) : Bool := decide (k ≠ i) && ((rd_T61 l (k : Int)).f2 || decide (k < i)) && clashL (rd_T61 l (i : Int)).f0.f0 (rd_T61 l (k : Int)).f0.f0
def readyT (l : List Ask) (i : Nat) : Bool := ((List.range l.length).all fun k => !blocks l i k) && !(rd_T61 l (i : Int)).f2
theorem readyT_no (l : List Ask) (i k : Nat) (hk : k < l.length) (h : blocks l i k = true) : readyT l i = false := by
  unfold readyT
  have : ((List.range l.length).all fun k => !blocks l i k) = false := by
    rw [List.all_eq_false]
    exact ⟨k, by simpa using hk, by simp [h]⟩
  rw [this]; rfl
theorem readyT_all (l : List Ask) (i : Nat) (h : ∀ k, k < l.length → blocks l i k = false) : readyT l i = !(rd_T61 l (i : Int)).f2 := by
  unfold readyT
  have : ((List.range l.length).all fun k => !blocks l i k) = true := by
    rw [List.all_eq_true]
    intro k hk
    rw [h k (by simpa using hk)]; rfl
  rw [this]; rfl
set_option maxHeartbeats 1000000 in
set_option maxRecDepth 100000 in
theorem ready_calls (g : Nat) (i : Nat) (A : Option Addr) (c : Nat) (l : List Ask) (r : Bool) (w : World) (hg : w.cell? ⟨g, 0, none⟩ = some (.slice A l.length c)) (hC : Kd.C k61 w A l.length l) (hi : i < l.length) (hr : Aside0 (r = readyT l i)) :
    Calls Try.prog 35 #[.pointer (some ⟨g, 0, none⟩), .int .i64 i] w fun e w' => e = .returned (.bool r) ∧ Below w.heap.size w w' := by
  have HC := Aside0.mk hC
  have hmax := Kd.C_max hC
  clear hC
  have hlt : g < w.heap.size := by
    unfold World.cell? at hg
    by_cases h : g < w.heap.size
    · exact h
    · rw [Array.getElem?_eq_none (by simpa using h)] at hg; simp at hg
  obtain ⟨ad, A1, c1, e0, hx0, hx1, hx2, hl1, hi1⟩ := at_T61 HC.out (i : Int) (by omega) (by omega)
  cases e0
  have HI := Aside0.mk hi1
  clear hl1 hi1
  simp only [Int.toNat_natCast] at hx0 hx1 hx2
  obtain ⟨x, hx⟩ : ∃ x, x = rd_T61 l (i : Int) := ⟨_, rfl⟩
  rw [← hx] at hx0 hx1 hx2 HI
  have HX := Aside0.mk hx
  clear hx
  go_enter Try.func35, Try.ntmps35
  go_wp2
  have hblk := blk_new w (.cells #[.slice A1 x.f0.f0.length c1, .int .i64 x.f1, .bool x.f2] 61)
  have HB0 : Aside0 (Below w.heap.size w (w.alloc (.cells #[.slice A1 x.f0.f0.length c1, .int .i64 x.f1, .bool x.f2] 61))) := ⟨below_alloc (Below.refl _ _) _⟩
  have hs0 : w.heap.size < (w.alloc (.cells #[.slice A1 x.f0.f0.length c1, .int .i64 x.f1, .bool x.f2] 61)).heap.size := by
    show _ < (w.heap.push _).size
    rw [Array.size_push]; omega
  have HBK0 := Aside0.mk hblk
  clear hblk hx0 hx1 hx2 hg hlt
  generalize w.alloc (.cells #[.slice A1 x.f0.f0.length c1, .int .i64 x.f1, .bool x.f2] 61) = w0 at HBK0 hs0 HB0 ⊢
  go_loopg [20] (l.length + 1) (fun kq v20 w' => ∃ k : Nat, v20 = .int .i64 k ∧ Aside0 (k + kq = l.length + 1) ∧ k ≤ l.length ∧ Aside0 (∀ j, j < k → blocks l i j = false) ∧ Aside0 (w'.heap[w.heap.size]? = some (.cells #[.slice A1 x.f0.f0.length c1, .int .i64 x.f1, .bool x.f2] 61 (0, 0))) ∧ w.heap.size < w'.heap.size ∧ Aside0 (Below w.heap.size w w'))
  case atStart => exact ⟨0, rfl, ⟨by omega⟩, Nat.zero_le _, ⟨fun j h => absurd h (Nat.not_lt_zero _)⟩, HBK0, hs0, HB0⟩
  case round =>
    clear HBK0 hs0 HB0
    obtain ⟨k, rfl, HK, hk, HJ, HBK, hs, HB⟩ := hrel
    have hy0 : wr.cell? ⟨w.heap.size, 0, none⟩ = some (.slice A1 x.f0.f0.length c1) := blk_cell HBK.out 0
    have hy1 : wr.cell? ⟨w.heap.size, 1, none⟩ = some (.int .i64 x.f1) := blk_cell HBK.out 1
    have hy2 : wr.cell? ⟨w.heap.size, 2, none⟩ = some (.bool x.f2) := blk_cell HBK.out 2
    cases gk with
    | zero => exact absurd HK.out (by omega)
    | succ k1 =>
      by_cases hkl : k < l.length
      · obtain ⟨ad2, A2, c2, e0, hz0, hz1, hz2, hl2, hi2⟩ := at_T61 (Kd.C_below HC.out HB.out) (k : Int) (by omega) (by omega)
        cases e0
        have HI2 := Aside0.mk hi2
        clear hl2 hi2
        simp only [Int.toNat_natCast] at hz0 hz1 hz2
        obtain ⟨y, hy⟩ : ∃ y, y = rd_T61 l (k : Int) := ⟨_, rfl⟩
        rw [← hy] at hz0 hz1 hz2 HI2
        have HY := Aside0.mk hy
        clear hy
        by_cases hcall : k ≠ i ∧ (y.f2 = true ∨ k < i)
        · have hki : ¬ (k : Int) = (i : Int) := fun e => hcall.1 (by omega)
          have hki2 : ((k : Int) != (i : Int)) = true := bne_iff_ne.2 hki
          obtain ⟨q, hq⟩ : ∃ q, q = clashL x.f0.f0 y.f0.f0 := ⟨_, rfl⟩
          have HQ := Aside0.mk hq
          have hor := hcall.2
          have HBL : Aside0 (blocks l i k = q) := ⟨by
            unfold blocks
            rw [← HY.out, ← HX.out, decide_eq_true hcall.1, HQ.out]
            rcases hor with h | h
            · rw [h]; rfl
            · rw [decide_eq_true h, Bool.or_true]; rfl⟩
          clear hq hcall
          cases hyf : y.f2 with
          | true =>
            rw [hyf] at hz2
            clear hor
            go_wp2_with fail
            refine (clash_calls A1 A2 c1 c2 x.f0.f0 y.f0.f0 q _ (Kd.C_below HI.out (below_alloc HB.out _)) (Kd.C_alloc HI2.out _) HQ).mono ?_
            rintro e w5 ⟨rfl, hb5⟩
            have HB5 := Aside0.mk (below_step (below_alloc HB.out _) hb5)
            have HBK5 := Aside0.mk ((hb5.block w.heap.size (by show _ < (wr.heap.push _).size; rw [Array.size_push]; omega)).trans (blk_alloc HBK.out _))
            have hs5 : w.heap.size < w5.heap.size := Nat.lt_of_lt_of_le (by show _ < (wr.heap.push _).size; rw [Array.size_push]; omega) hb5.size
            clear hb5 HBK HB hs hy0 hy1 hy2 hz0 hz1 hz2 HI2
            cases hqq : q with
            | true =>
              have HR : Aside0 (r = false) := ⟨by rw [hr.out]; exact readyT_no l i k hkl (by rw [HBL.out, hqq])⟩
              clear HBL
              go_wp2
              go_ret
              exact ⟨by rw [HR.out]; rfl, HB5.out⟩
            | false =>
              have HN : Aside0 (∀ j, j < k + 1 → blocks l i j = false) := ⟨fun j hj => by
                by_cases e : j = k
                · subst e; rw [HBL.out, hqq]
                · exact HJ.out j (by omega)⟩
              clear HBL
              go_wp2
              go_roundg k1
              case measure => have := HK.out; omega
              case rel => exact ⟨k + 1, by go_num, ⟨by have := HK.out; omega⟩, by omega, HN, HBK5, hs5, HB5⟩
          | false =>
            rw [hyf] at hz2
            have hki3 : (k : Int) < (i : Int) := by
              rcases hor with h | h
              · rw [hyf] at h; cases h
              · omega
            clear hor
            go_wp2_with fail
            refine (clash_calls A1 A2 c1 c2 x.f0.f0 y.f0.f0 q _ (Kd.C_below HI.out (below_alloc HB.out _)) (Kd.C_alloc HI2.out _) HQ).mono ?_
            rintro e w5 ⟨rfl, hb5⟩
            have HB5 := Aside0.mk (below_step (below_alloc HB.out _) hb5)
            have HBK5 := Aside0.mk ((hb5.block w.heap.size (by show _ < (wr.heap.push _).size; rw [Array.size_push]; omega)).trans (blk_alloc HBK.out _))
            have hs5 : w.heap.size < w5.heap.size := Nat.lt_of_lt_of_le (by show _ < (wr.heap.push _).size; rw [Array.size_push]; omega) hb5.size
            clear hb5 HBK HB hs hy0 hy1 hy2 hz0 hz1 hz2 HI2
            cases hqq : q with
            | true =>
              have HR : Aside0 (r = false) := ⟨by rw [hr.out]; exact readyT_no l i k hkl (by rw [HBL.out, hqq])⟩
              clear HBL
              go_wp2
              go_ret
              exact ⟨by rw [HR.out]; rfl, HB5.out⟩
            | false =>
              have HN : Aside0 (∀ j, j < k + 1 → blocks l i j = false) := ⟨fun j hj => by
                by_cases e : j = k
                · subst e; rw [HBL.out, hqq]
                · exact HJ.out j (by omega)⟩
              clear HBL
              go_wp2
              go_roundg k1
              case measure => have := HK.out; omega
              case rel => exact ⟨k + 1, by go_num, ⟨by have := HK.out; omega⟩, by omega, HN, HBK5, hs5, HB5⟩
        · have HN : Aside0 (∀ j, j < k + 1 → blocks l i j = false) := ⟨fun j hj => by
            by_cases e : j = k
            · subst e
              unfold blocks
              rw [← HY.out]
              by_cases e2 : j = i
              · rw [decide_eq_false (by simpa using e2)]; rfl
              · have h2 : ¬ (y.f2 = true ∨ j < i) := fun h => hcall ⟨e2, h⟩
                have h3 : y.f2 = false := by cases h : y.f2 with | false => rfl | true => exact absurd (.inl h) h2
                rw [h3, decide_eq_false (fun h => h2 (.inr h))]
                simp
            · exact HJ.out j (by omega)⟩
          by_cases hki : k = i
          · subst hki
            have hki2 : ((k : Int) != (k : Int)) = false := by simp
            clear hcall
            go_wp2
            go_roundg k1
            case measure => have := HK.out; omega
            case rel => exact ⟨k + 1, by go_num, ⟨by have := HK.out; omega⟩, by omega, HN, ⟨blk_alloc HBK.out _⟩, by show _ < (wr.heap.push _).size; rw [Array.size_push]; omega, ⟨below_alloc HB.out _⟩⟩
          · have hki2 : ((k : Int) != (i : Int)) = true := bne_iff_ne.2 (fun e => hki (by omega))
            have h2 : ¬ (y.f2 = true ∨ k < i) := fun h => hcall ⟨hki, h⟩
            have h3 : y.f2 = false := by cases h : y.f2 with | false => rfl | true => exact absurd (.inl h) h2
            have h4 : ¬ (k : Int) < (i : Int) := fun h => h2 (.inr (by omega))
            rw [h3] at hz2
            clear hcall h2
            go_wp2
            go_roundg k1
            case measure => have := HK.out; omega
            case rel => exact ⟨k + 1, by go_num, ⟨by have := HK.out; omega⟩, by omega, HN, ⟨blk_alloc HBK.out _⟩, by show _ < (wr.heap.push _).size; rw [Array.size_push]; omega, ⟨below_alloc HB.out _⟩⟩
      · have HR : Aside0 (r = !x.f2) := ⟨by rw [hr.out, HX.out]; exact readyT_all l i (fun j hj => HJ.out j (by omega))⟩
        go_wp2
        go_ret
        exact ⟨by rw [HR.out]; rfl, HB.out⟩
end Go.Proofs.Ytbpadimcnamdpaa.PK
/- lock: the ids of those for which something is so. -/
namespace Go.Proofs.Ytbpadimcnamdpaa.PK
open Go.RowKit Go.Proofs.YtbpadimcnamdpaaW.PrintWords Go.Proofs.YtbpadimcnamdpaaW.PrintLast Go.Proofs.YtbpadimcnamdpaaW.PrintMore
def idsK (l : List Ask) (p : Nat → Bool) (k : Nat) : List Int := ((List.range k).filter p).map fun i : Nat => (rd_T61 l (i : Int)).f1
theorem info3 : (Try.prog.info? 3).map (fun i => (i.zero, i.size, i.bytes)) = some (some (.int .i64 0), 1, 8) := by kernel_rfl
theorem idsK_yes (l : List Ask) (p : Nat → Bool) (k : Nat) (h : p k = true) : idsK l p (k + 1) = idsK l p k ++ [(rd_T61 l (k : Int)).f1] := by
  unfold idsK
  rw [List.range_succ, List.filter_append, List.map_append]
  simp [h]
theorem idsK_no (l : List Ask) (p : Nat → Bool) (k : Nat) (h : p k = false) : idsK l p (k + 1) = idsK l p k := by
  unfold idsK
  rw [List.range_succ, List.filter_append, List.map_append]
  simp [h]
theorem idsK_length (l : List Ask) (p : Nat → Bool) (k : Nat) : (idsK l p k).length ≤ k := by
  unfold idsK
  rw [List.length_map]
  exact Nat.le_trans (List.length_filter_le _ _) (by simp)
set_option maxHeartbeats 1000000 in
set_option maxRecDepth 100000 in
theorem ids_ready (gb g : Nat) (A : Option Addr) (c : Nat) (l : List Ask) (p : Nat → Bool) (w : World) (hg : w.cell? ⟨g, 0, none⟩ = some (.slice A l.length c)) (hC : Kd.C k61 w A l.length l) (hsm : l.length ≤ 1099511627776)
    (hcl : ∀ (i : Nat) (w1 : World), i < l.length → Below w.heap.size w w1 → Calls Try.prog 34 #[.int .i64 i, .pointer (some ⟨gb, 0, none⟩)] w1 fun e w2 => e = .returned (.bool (p i)) ∧ Below w1.heap.size w1 w2) :
    Calls Try.prog 28 #[.pointer (some ⟨g, 0, none⟩), .func (.func 34) #[] #[.pointer (some ⟨gb, 0, none⟩)]] w fun e w' => ∃ v, e = .returned v ∧ Kd.R (Kd.int .i64) 3 w' w.heap.size (fun _ => True) v (idsK l p l.length) ∧ Below w.heap.size w w' := by
  have HC := Aside0.mk hC
  clear hC
  have HCL := Aside0.mk hcl
  clear hcl
  go_enter Try.func28, Try.ntmps28
  go_wp2
  go_loopg [15, 5] (l.length + 1) (fun kq v15 v5 w' => ∃ k : Nat, v15 = .int .i64 k ∧ Aside0 (k + kq = l.length + 1) ∧ k ≤ l.length ∧ Aside0 (Kd.R (Kd.int .i64) 3 w' w.heap.size (fun _ => True) v5 (idsK l p k)) ∧ Aside0 (Below w.heap.size w w'))
  case atStart => exact ⟨0, rfl, ⟨by omega⟩, Nat.zero_le _, ⟨(Kd.R_nil (Kd.int .i64) 3 w w.heap.size (fun _ => True) : _)⟩, ⟨Below.refl _ _⟩⟩
  case round =>
    obtain ⟨k, rfl, HK, hk, HO, HB⟩ := hrel
    cases gk with
    | zero => exact absurd HK.out (by omega)
    | succ k1 =>
      by_cases hkl : k < l.length
      · obtain ⟨ad2, A2, c2, e0, hz0, hz1, hz2, hl2, hi2⟩ := at_T61 (Kd.C_below HC.out HB.out) (k : Int) (by omega) (by omega)
        cases e0
        clear hl2 hi2
        simp only [Int.toNat_natCast] at hz0 hz1 hz2
        obtain ⟨y, hy⟩ : ∃ y, y = rd_T61 l (k : Int) := ⟨_, rfl⟩
        rw [← hy] at hz0 hz1 hz2
        have HY := Aside0.mk hy
        clear hy
        go_wp2_with fail
        refine (HCL.out k _ hkl (below_alloc HB.out _)).mono ?_
        rintro e w5 ⟨rfl, hb5⟩
        have hcy : w5.cell? ⟨wr.heap.size, 1, none⟩ = some (.int .i64 y.f1) := (hb5.cell (p := ⟨wr.heap.size, 1, none⟩) (by show wr.heap.size < (wr.heap.push _).size; rw [Array.size_push]; omega)).trans (blk_cell (blk_new wr _) 1)
        have HB5 := Aside0.mk (below_step (below_alloc HB.out _) hb5)
        have HO5 := Aside0.mk (Kd.R_below (Kd.R_alloc HO.out _) hb5)
        clear hb5 HB HO hz0 hz1 hz2
        cases hpk : p k with
        | true =>
          have HI := Aside0.mk (idsK_yes l p k hpk)
          rw [← HY.out] at HI
          have HL := Aside0.mk (idsK_length l p k)
          go_wp2_with (first | ((with_reducible refine gate_builtin (b := .append) (xs := #[.tmp 23, .tmp 26]) rfl ?_); at_builtin; refine Kd.R_append (Kd.int .i64) (w0 := w) w.heap.size rfl (.tmp 23) (.tmp 26) 24 3 (.int .i64 0) 8 rfl Try.underlying24 info3 rfl (by decide) (by omega) u5 (idsK l p k) (y.f1) [.int .i64 y.f1] (fun _ => True) (fun _ => False) rfl rfl ?aP (fun _ hk => hk.elim) (fun _ _ => trivial) HO5.out HB5.out ?aS ?aL ?_; (case aP => exact rfl); (case aS => exact HB5.out.size); (case aL => have := HL.out; omega); intro v1 w6 ho hb hg_ hat_; clear hg_ hat_; rw [← HI.out] at ho; have HO6 := Aside0.mk ho; have HB6 := Aside0.mk hb; clear ho hb))
          go_roundg k1
          case measure => have := HK.out; omega
          case rel => exact ⟨k + 1, by go_num, ⟨by have := HK.out; omega⟩, by omega, HO6, HB6⟩
        | false =>
          have HI := Aside0.mk (idsK_no l p k hpk)
          rw [← HI.out] at HO5
          go_wp2
          go_roundg k1
          case measure => have := HK.out; omega
          case rel => exact ⟨k + 1, by go_num, ⟨by have := HK.out; omega⟩, by omega, HO5, HB5⟩
      · have e : k = l.length := by omega
        subst e
        go_wp2
        go_ret
        exact ⟨_, rfl, HO.out, HB.out⟩
set_option maxHeartbeats 1000000 in
set_option maxRecDepth 100000 in
theorem ids_waiting (gb g : Nat) (A : Option Addr) (c : Nat) (l : List Ask) (p : Nat → Bool) (w : World) (hg : w.cell? ⟨g, 0, none⟩ = some (.slice A l.length c)) (hC : Kd.C k61 w A l.length l) (hsm : l.length ≤ 1099511627776)
    (hcl : ∀ (i : Nat) (w1 : World), i < l.length → Below w.heap.size w w1 → Calls Try.prog 33 #[.int .i64 i, .pointer (some ⟨gb, 0, none⟩)] w1 fun e w2 => e = .returned (.bool (p i)) ∧ Below w1.heap.size w1 w2) :
    Calls Try.prog 28 #[.pointer (some ⟨g, 0, none⟩), .func (.func 33) #[] #[.pointer (some ⟨gb, 0, none⟩)]] w fun e w' => ∃ v, e = .returned v ∧ Kd.R (Kd.int .i64) 3 w' w.heap.size (fun _ => True) v (idsK l p l.length) ∧ Below w.heap.size w w' := by
  have HC := Aside0.mk hC
  clear hC
  have HCL := Aside0.mk hcl
  clear hcl
  go_enter Try.func28, Try.ntmps28
  go_wp2
  go_loopg [15, 5] (l.length + 1) (fun kq v15 v5 w' => ∃ k : Nat, v15 = .int .i64 k ∧ Aside0 (k + kq = l.length + 1) ∧ k ≤ l.length ∧ Aside0 (Kd.R (Kd.int .i64) 3 w' w.heap.size (fun _ => True) v5 (idsK l p k)) ∧ Aside0 (Below w.heap.size w w'))
  case atStart => exact ⟨0, rfl, ⟨by omega⟩, Nat.zero_le _, ⟨(Kd.R_nil (Kd.int .i64) 3 w w.heap.size (fun _ => True) : _)⟩, ⟨Below.refl _ _⟩⟩
  case round =>
    obtain ⟨k, rfl, HK, hk, HO, HB⟩ := hrel
    cases gk with
    | zero => exact absurd HK.out (by omega)
    | succ k1 =>
      by_cases hkl : k < l.length
      · obtain ⟨ad2, A2, c2, e0, hz0, hz1, hz2, hl2, hi2⟩ := at_T61 (Kd.C_below HC.out HB.out) (k : Int) (by omega) (by omega)
        cases e0
        clear hl2 hi2
        simp only [Int.toNat_natCast] at hz0 hz1 hz2
        obtain ⟨y, hy⟩ : ∃ y, y = rd_T61 l (k : Int) := ⟨_, rfl⟩
        rw [← hy] at hz0 hz1 hz2
        have HY := Aside0.mk hy
        clear hy
        go_wp2_with fail
        refine (HCL.out k _ hkl (below_alloc HB.out _)).mono ?_
        rintro e w5 ⟨rfl, hb5⟩
        have hcy : w5.cell? ⟨wr.heap.size, 1, none⟩ = some (.int .i64 y.f1) := (hb5.cell (p := ⟨wr.heap.size, 1, none⟩) (by show wr.heap.size < (wr.heap.push _).size; rw [Array.size_push]; omega)).trans (blk_cell (blk_new wr _) 1)
        have HB5 := Aside0.mk (below_step (below_alloc HB.out _) hb5)
        have HO5 := Aside0.mk (Kd.R_below (Kd.R_alloc HO.out _) hb5)
        clear hb5 HB HO hz0 hz1 hz2
        cases hpk : p k with
        | true =>
          have HI := Aside0.mk (idsK_yes l p k hpk)
          rw [← HY.out] at HI
          have HL := Aside0.mk (idsK_length l p k)
          go_wp2_with (first | ((with_reducible refine gate_builtin (b := .append) (xs := #[.tmp 23, .tmp 26]) rfl ?_); at_builtin; refine Kd.R_append (Kd.int .i64) (w0 := w) w.heap.size rfl (.tmp 23) (.tmp 26) 24 3 (.int .i64 0) 8 rfl Try.underlying24 info3 rfl (by decide) (by omega) u5 (idsK l p k) (y.f1) [.int .i64 y.f1] (fun _ => True) (fun _ => False) rfl rfl ?aP (fun _ hk => hk.elim) (fun _ _ => trivial) HO5.out HB5.out ?aS ?aL ?_; (case aP => exact rfl); (case aS => exact HB5.out.size); (case aL => have := HL.out; omega); intro v1 w6 ho hb hg_ hat_; clear hg_ hat_; rw [← HI.out] at ho; have HO6 := Aside0.mk ho; have HB6 := Aside0.mk hb; clear ho hb))
          go_roundg k1
          case measure => have := HK.out; omega
          case rel => exact ⟨k + 1, by go_num, ⟨by have := HK.out; omega⟩, by omega, HO6, HB6⟩
        | false =>
          have HI := Aside0.mk (idsK_no l p k hpk)
          rw [← HI.out] at HO5
          go_wp2
          go_roundg k1
          case measure => have := HK.out; omega
          case rel => exact ⟨k + 1, by go_num, ⟨by have := HK.out; omega⟩, by omega, HO5, HB5⟩
      · have e : k = l.length := by omega
        subst e
        go_wp2
        go_ret
        exact ⟨_, rfl, HO.out, HB.out⟩
set_option maxHeartbeats 1000000 in
set_option maxRecDepth 100000 in
theorem ids_holding (gb g : Nat) (A : Option Addr) (c : Nat) (l : List Ask) (p : Nat → Bool) (w : World) (hg : w.cell? ⟨g, 0, none⟩ = some (.slice A l.length c)) (hC : Kd.C k61 w A l.length l) (hsm : l.length ≤ 1099511627776)
    (hcl : ∀ (i : Nat) (w1 : World), i < l.length → Below w.heap.size w w1 → Calls Try.prog 29 #[.int .i64 i, .pointer (some ⟨gb, 0, none⟩)] w1 fun e w2 => e = .returned (.bool (p i)) ∧ Below w1.heap.size w1 w2) :
    Calls Try.prog 28 #[.pointer (some ⟨g, 0, none⟩), .func (.func 29) #[] #[.pointer (some ⟨gb, 0, none⟩)]] w fun e w' => ∃ v, e = .returned v ∧ Kd.R (Kd.int .i64) 3 w' w.heap.size (fun _ => True) v (idsK l p l.length) ∧ Below w.heap.size w w' := by
  have HC := Aside0.mk hC
  clear hC
  have HCL := Aside0.mk hcl
  clear hcl
  go_enter Try.func28, Try.ntmps28
  go_wp2
  go_loopg [15, 5] (l.length + 1) (fun kq v15 v5 w' => ∃ k : Nat, v15 = .int .i64 k ∧ Aside0 (k + kq = l.length + 1) ∧ k ≤ l.length ∧ Aside0 (Kd.R (Kd.int .i64) 3 w' w.heap.size (fun _ => True) v5 (idsK l p k)) ∧ Aside0 (Below w.heap.size w w'))
  case atStart => exact ⟨0, rfl, ⟨by omega⟩, Nat.zero_le _, ⟨(Kd.R_nil (Kd.int .i64) 3 w w.heap.size (fun _ => True) : _)⟩, ⟨Below.refl _ _⟩⟩
  case round =>
    obtain ⟨k, rfl, HK, hk, HO, HB⟩ := hrel
    cases gk with
    | zero => exact absurd HK.out (by omega)
    | succ k1 =>
      by_cases hkl : k < l.length
      · obtain ⟨ad2, A2, c2, e0, hz0, hz1, hz2, hl2, hi2⟩ := at_T61 (Kd.C_below HC.out HB.out) (k : Int) (by omega) (by omega)
        cases e0
        clear hl2 hi2
        simp only [Int.toNat_natCast] at hz0 hz1 hz2
        obtain ⟨y, hy⟩ : ∃ y, y = rd_T61 l (k : Int) := ⟨_, rfl⟩
        rw [← hy] at hz0 hz1 hz2
        have HY := Aside0.mk hy
        clear hy
        go_wp2_with fail
        refine (HCL.out k _ hkl (below_alloc HB.out _)).mono ?_
        rintro e w5 ⟨rfl, hb5⟩
        have hcy : w5.cell? ⟨wr.heap.size, 1, none⟩ = some (.int .i64 y.f1) := (hb5.cell (p := ⟨wr.heap.size, 1, none⟩) (by show wr.heap.size < (wr.heap.push _).size; rw [Array.size_push]; omega)).trans (blk_cell (blk_new wr _) 1)
        have HB5 := Aside0.mk (below_step (below_alloc HB.out _) hb5)
        have HO5 := Aside0.mk (Kd.R_below (Kd.R_alloc HO.out _) hb5)
        clear hb5 HB HO hz0 hz1 hz2
        cases hpk : p k with
        | true =>
          have HI := Aside0.mk (idsK_yes l p k hpk)
          rw [← HY.out] at HI
          have HL := Aside0.mk (idsK_length l p k)
          go_wp2_with (first | ((with_reducible refine gate_builtin (b := .append) (xs := #[.tmp 23, .tmp 26]) rfl ?_); at_builtin; refine Kd.R_append (Kd.int .i64) (w0 := w) w.heap.size rfl (.tmp 23) (.tmp 26) 24 3 (.int .i64 0) 8 rfl Try.underlying24 info3 rfl (by decide) (by omega) u5 (idsK l p k) (y.f1) [.int .i64 y.f1] (fun _ => True) (fun _ => False) rfl rfl ?aP (fun _ hk => hk.elim) (fun _ _ => trivial) HO5.out HB5.out ?aS ?aL ?_; (case aP => exact rfl); (case aS => exact HB5.out.size); (case aL => have := HL.out; omega); intro v1 w6 ho hb hg_ hat_; clear hg_ hat_; rw [← HI.out] at ho; have HO6 := Aside0.mk ho; have HB6 := Aside0.mk hb; clear ho hb))
          go_roundg k1
          case measure => have := HK.out; omega
          case rel => exact ⟨k + 1, by go_num, ⟨by have := HK.out; omega⟩, by omega, HO6, HB6⟩
        | false =>
          have HI := Aside0.mk (idsK_no l p k hpk)
          rw [← HI.out] at HO5
          go_wp2
          go_roundg k1
          case measure => have := HK.out; omega
          case rel => exact ⟨k + 1, by go_num, ⟨by have := HK.out; omega⟩, by omega, HO5, HB5⟩
      · have e : k = l.length := by omega
        subst e
        go_wp2
        go_ret
        exact ⟨_, rfl, HO.out, HB.out⟩
end Go.Proofs.Ytbpadimcnamdpaa.PK
/- lock: who is ready, who waits. -/
namespace Go.Proofs.Ytbpadimcnamdpaa.PK
open Go.RowKit Go.Proofs.YtbpadimcnamdpaaW.PrintWords Go.Proofs.YtbpadimcnamdpaaW.PrintLast Go.Proofs.YtbpadimcnamdpaaW.PrintMore
theorem cell_lt {w : World} {g j : Nat} {v : Value} (hg : w.cell? ⟨g, j, none⟩ = some v) : g < w.heap.size := by
  unfold World.cell? at hg
  by_cases h : g < w.heap.size
  · exact h
  · rw [Array.getElem?_eq_none (by simpa using h)] at hg; simp at hg
theorem alloc_lt (w : World) (o : Obj) {g : Nat} (h : g < w.heap.size) : g < (w.alloc o).heap.size := by
  show g < (w.heap.push _).size
  rw [Array.size_push]; omega
theorem alloc_lt' (w : World) (o : Obj) : w.heap.size < (w.alloc o).heap.size := by
  show w.heap.size < (w.heap.push _).size
  rw [Array.size_push]; omega
set_option maxRecDepth 100000 in
theorem ready1_calls (gb g : Nat) (i : Nat) (A : Option Addr) (c : Nat) (l : List Ask) (r : Bool) (w : World) (hb : w.cell? ⟨gb, 0, none⟩ = some (.pointer (some ⟨g, 0, none⟩))) (hg : w.cell? ⟨g, 0, none⟩ = some (.slice A l.length c)) (hC : Kd.C k61 w A l.length l) (hi : i < l.length) (hr : Aside0 (r = readyT l i)) :
    Calls Try.prog 34 #[.int .i64 i, .pointer (some ⟨gb, 0, none⟩)] w fun e w' => e = .returned (.bool r) ∧ Below w.heap.size w w' := by
  have HC := Aside0.mk hC
  clear hC
  go_enter Try.func34, Try.ntmps34
  go_wp2_with fail
  refine (ready_calls g i A c l r w hg HC.out hi hr).mono ?_
  rintro e w1 ⟨rfl, hb1⟩
  have HB1 := Aside0.mk hb1
  clear hb1
  go_wp2_with fail
  go_ret
  exact ⟨rfl, HB1.out⟩
set_option maxRecDepth 100000 in
theorem waiting1_calls (gb g : Nat) (i : Nat) (A : Option Addr) (c : Nat) (l : List Ask) (w : World) (hb : w.cell? ⟨gb, 0, none⟩ = some (.pointer (some ⟨g, 0, none⟩))) (hg : w.cell? ⟨g, 0, none⟩ = some (.slice A l.length c)) (hC : Kd.C k61 w A l.length l) (hi : i < l.length) :
    Calls Try.prog 33 #[.int .i64 i, .pointer (some ⟨gb, 0, none⟩)] w fun e w' => e = .returned (.bool (!(rd_T61 l (i : Int)).f2)) ∧ Below w.heap.size w w' := by
  have hmax := Kd.C_max hC
  obtain ⟨ad, A1, c1, e0, hx0, hx1, hx2, hl1, hi1⟩ := at_T61 hC (i : Int) (by omega) (by omega)
  cases e0
  clear hl1 hi1 hC
  simp only [Int.toNat_natCast] at hx0 hx1 hx2
  generalize rd_T61 l (i : Int) = x at hx0 hx1 hx2
  go_enter Try.func33, Try.ntmps33
  go_wp2
  go_ret
  exact ⟨rfl, Below.refl _ _⟩
set_option maxRecDepth 100000 in
theorem holding1_calls (gb g : Nat) (i : Nat) (A : Option Addr) (c : Nat) (l : List Ask) (w : World) (hb : w.cell? ⟨gb, 0, none⟩ = some (.pointer (some ⟨g, 0, none⟩))) (hg : w.cell? ⟨g, 0, none⟩ = some (.slice A l.length c)) (hC : Kd.C k61 w A l.length l) (hi : i < l.length) :
    Calls Try.prog 29 #[.int .i64 i, .pointer (some ⟨gb, 0, none⟩)] w fun e w' => e = .returned (.bool (rd_T61 l (i : Int)).f2) ∧ Below w.heap.size w w' := by
  have hmax := Kd.C_max hC
  obtain ⟨ad, A1, c1, e0, hx0, hx1, hx2, hl1, hi1⟩ := at_T61 hC (i : Int) (by omega) (by omega)
  cases e0
  clear hl1 hi1 hC
  simp only [Int.toNat_natCast] at hx0 hx1 hx2
  generalize rd_T61 l (i : Int) = x at hx0 hx1 hx2
  go_enter Try.func29, Try.ntmps29
  go_wp2
  go_ret
  exact ⟨rfl, Below.refl _ _⟩
def held (l : List Ask) (i : Nat) : Bool := (rd_T61 l (i : Int)).f2
set_option maxRecDepth 100000 in
theorem Ready_calls (g : Nat) (A : Option Addr) (c : Nat) (l : List Ask) (w : World) (hg : w.cell? ⟨g, 0, none⟩ = some (.slice A l.length c)) (hC : Kd.C k61 w A l.length l) (hsm : l.length ≤ 1099511627776) :
    Calls Try.prog 18 #[.pointer (some ⟨g, 0, none⟩)] w fun e w' => ∃ v, e = .returned v ∧ Kd.R (Kd.int .i64) 3 w' w.heap.size (fun _ => True) v (idsK l (readyT l) l.length) ∧ Below w.heap.size w w' := by
  have HC := Aside0.mk hC
  clear hC
  have hlt := cell_lt hg
  go_enter Try.func18, Try.ntmps18
  go_wp2_with fail
  refine (ids_ready w.heap.size g A c l (readyT l) _ (by rw [(below_alloc (Below.refl w.heap.size w) _).cell (p := ⟨g, 0, none⟩) hlt]; exact hg) (Kd.C_alloc HC.out _) hsm ?_).mono ?_
  · intro i w1 hi hb1
    have hb2 := below_alloc (Below.refl w.heap.size w) (.cells #[.pointer (some ⟨g, 0, none⟩)] 35)
    refine ready1_calls w.heap.size g i A c l _ w1 ?_ ?_ (Kd.C_below (Kd.C_alloc HC.out _) hb1) hi ⟨rfl⟩
    · rw [hb1.cell (p := ⟨w.heap.size, 0, none⟩) (alloc_lt' _ _)]
      exact blk_cell (blk_new w _) 0
    · rw [hb1.cell (p := ⟨g, 0, none⟩) (alloc_lt _ _ hlt), hb2.cell (p := ⟨g, 0, none⟩) hlt]
      exact hg
  · rintro e w1 ⟨v, rfl, ho1, hb1⟩
    have HO1 := Aside0.mk (Kd.R_lower ho1 (Nat.le_of_lt (alloc_lt' w _)))
    have HB1 := Aside0.mk (below_step (below_alloc (Below.refl w.heap.size w) _) hb1)
    clear ho1 hb1
    go_wp2_with fail
    go_ret
    exact ⟨_, rfl, HO1.out, HB1.out⟩
set_option maxRecDepth 100000 in
theorem Waiting_calls (g : Nat) (A : Option Addr) (c : Nat) (l : List Ask) (w : World) (hg : w.cell? ⟨g, 0, none⟩ = some (.slice A l.length c)) (hC : Kd.C k61 w A l.length l) (hsm : l.length ≤ 1099511627776) :
    Calls Try.prog 17 #[.pointer (some ⟨g, 0, none⟩)] w fun e w' => ∃ v, e = .returned v ∧ Kd.R (Kd.int .i64) 3 w' w.heap.size (fun _ => True) v (idsK l (fun i => !held l i) l.length) ∧ Below w.heap.size w w' := by
  have HC := Aside0.mk hC
  clear hC
  have hlt := cell_lt hg
  go_enter Try.func17, Try.ntmps17
  go_wp2_with fail
  refine (ids_waiting w.heap.size g A c l (fun i => !held l i) _ (by rw [(below_alloc (Below.refl w.heap.size w) _).cell (p := ⟨g, 0, none⟩) hlt]; exact hg) (Kd.C_alloc HC.out _) hsm ?_).mono ?_
  · intro i w1 hi hb1
    have hb2 := below_alloc (Below.refl w.heap.size w) (.cells #[.pointer (some ⟨g, 0, none⟩)] 35)
    refine waiting1_calls w.heap.size g i A c l w1 ?_ ?_ (Kd.C_below (Kd.C_alloc HC.out _) hb1) hi
    · rw [hb1.cell (p := ⟨w.heap.size, 0, none⟩) (alloc_lt' _ _)]
      exact blk_cell (blk_new w _) 0
    · rw [hb1.cell (p := ⟨g, 0, none⟩) (alloc_lt _ _ hlt), hb2.cell (p := ⟨g, 0, none⟩) hlt]
      exact hg
  · rintro e w1 ⟨v, rfl, ho1, hb1⟩
    have HO1 := Aside0.mk (Kd.R_lower ho1 (Nat.le_of_lt (alloc_lt' w _)))
    have HB1 := Aside0.mk (below_step (below_alloc (Below.refl w.heap.size w) _) hb1)
    clear ho1 hb1
    go_wp2_with fail
    go_ret
    exact ⟨_, rfl, HO1.out, HB1.out⟩
end Go.Proofs.Ytbpadimcnamdpaa.PK
/- lock: lists of wants, one behind the other, in a row of their own. -/
namespace Go.Proofs.Ytbpadimcnamdpaa.PK
open Go.RowKit Go.Proofs.YtbpadimcnamdpaaW.PrintWords Go.Proofs.YtbpadimcnamdpaaW.PrintLast Go.Proofs.YtbpadimcnamdpaaW.PrintMore
/-- A row with room. -/
theorem R_room {α : Type} (d : Kd α) (e : Nat) (w : World) (base g cap : Nat) (cs : Array Value) (hg : w.heap[g]? = some (.cells cs e (0, 0))) (hb : base ≤ g) (hc : cap ≤ maxLen) (hs : cs.size = cap * d.sz) : d.R e w base (fun _ => True) (.slice (some ⟨g, 0, none⟩) 0 cap) [] :=
  ⟨fun _ _ => trivial, [], ⟨by simp, .inr ⟨g, cap, cs, rfl, hb, hg, Nat.zero_le _, hc, hs, by simp⟩⟩, Reps.none _ _⟩
set_option maxRecDepth 100000 in
theorem grow_calls (n : Nat) (w : World) (hn : n ≤ 1099511627776) :
    Calls Try.prog 37 #[.slice none 0 0, .int .i64 n] w fun e w' => ∃ v, e = .returned v ∧ Kd.R k31 31 w' w.heap.size (fun _ => True) v [] ∧ Below w.heap.size w w' := by
  by_cases h0 : n = 0
  · subst h0
    refine (Any8.slices_Grow_room Try.growW none 0 0 0 w (by omega) (by omega) (by omega) (by omega)).mono ?_
    rintro e w1 ⟨rfl, rfl⟩
    exact ⟨_, rfl, Kd.R_nil _ _ _ _ _, Below.refl _ _⟩
  · obtain ⟨i0, hi, hzz⟩ := Option.map_eq_some_iff.1 info31
    simp only [Prod.mk.injEq] at hzz
    obtain ⟨hz0, hz1, hz2⟩ := hzz
    refine (Any8.slices_Grow_grow Try.growW i0 _ hi hz0 (by omega) none 0 0 n [] w (by omega) (by omega) (by rw [hz2]; omega) (by omega) (by simp) (fun _ => rfl) (fun a h => by cases h)).mono ?_
    rintro e w1 ⟨rfl, rfl⟩
    refine ⟨_, rfl, ?_, (Below.refl _ _).drew.alloc (Nat.le_refl _) _⟩
    have hge := grownCap_ge w (0 + n) 0 (Try.growW_ren.t 25)
    have hle := grownCap_le_maxLen w (0 + n) 0 (Try.growW_ren.t 25) (by unfold maxLen; omega)
    refine R_room k31 31 _ _ w.heap.size _ _ (blk_new w.drew _) (Nat.le_refl _) hle ?_
    rw [Array.size_append, Array.size_append, size_zeroCells, size_zeroCells]
    show 0 + (0 + n - 0) * 2 + (_ - (0 + n)) * 2 = _ * 2
    omega
theorem take_flat (ll : List (List W)) (i : Nat) (h : i < ll.length) : (ll.take (i + 1)).flatten = (ll.take i).flatten ++ rd_L5 ll (i : Int) := by
  rw [List.take_succ_eq_append_getElem h, List.flatten_append]
  simp [rd_L5, List.getD, h]
theorem take_flat_le (ll : List (List W)) (i : Nat) : ((ll.take i).flatten).length ≤ (ll.flatten).length := by
  conv => rhs; rw [← List.take_append_drop i ll]
  rw [List.flatten_append, List.length_append]
  omega
theorem KM (W : World) (base : Nat) (ok : Nat → Prop) (x : S31) (cs : List Value) (h : k31.K W x cs) : k31.M W base ok x cs := by
  rw [k31_open h]
  exact k31_mkM W base ok x
set_option maxHeartbeats 1000000 in
set_option maxRecDepth 100000 in
theorem concat_calls (A : Option Addr) (c : Nat) (ll : List (List W)) (w : World) (hC : Kd.C (Kd.slice 31 k31) w A ll.length ll) (hsm : (ll.flatten).length ≤ 1073741824) :
    Calls Try.prog 22 #[.slice A ll.length c] w fun e w' => ∃ v, e = .returned v ∧ Kd.R k31 31 w' w.heap.size (fun _ => True) v ll.flatten ∧ Below w.heap.size w w' := by
  have HC := Aside0.mk hC
  have hmax := Kd.C_max hC
  clear hC
  go_enter Try.func22, Try.ntmps22
  go_wp2
  go_loopg [11, 3] (ll.length + 1) (fun kq v11 v3 w' => ∃ i n : Nat, v11 = .int .i64 i ∧ v3 = .int .i64 n ∧ Aside0 (i + kq = ll.length + 1) ∧ i ≤ ll.length ∧ n ≤ 1073741824 ∧ Aside0 (n = ((ll.take i).flatten).length) ∧ w = w')
  case atStart => exact ⟨0, 0, rfl, rfl, ⟨by omega⟩, Nat.zero_le _, by omega, ⟨rfl⟩, rfl⟩
  case round =>
    obtain ⟨i, n, rfl, rfl, HK, hi, hn, HN, rfl⟩ := hrel
    cases gk with
    | zero => exact absurd HK.out (by omega)
    | succ k1 =>
      by_cases hil : i < ll.length
      · obtain ⟨ad, A1, c1, e0, hx, hl1, hi1⟩ := at_L5 HC.out (i : Int) (by omega) (by omega)
        cases e0
        clear hl1 hi1
        simp only [Int.toNat_natCast] at hx
        have HF := Aside0.mk (take_flat ll i hil)
        have hle := take_flat_le ll (i + 1)
        rw [HF.out, List.length_append, ← HN.out] at hle
        generalize rd_L5 ll (i : Int) = x at hx HF hle
        have hn2 : n + x.length ≤ 1073741824 := by omega
        clear hle
        go_wp2
        go_roundg k1
        case measure => have := HK.out; omega
        case rel => exact ⟨i + 1, n + x.length, by go_num, by go_num, ⟨by have := HK.out; omega⟩, by omega, hn2, ⟨by rw [HF.out, List.length_append, ← HN.out]⟩, rfl⟩
      · have HN2 : Aside0 (n = (ll.flatten).length) := ⟨by rw [HN.out, List.take_of_length_le (by omega)]⟩
        clear HN
        go_wp2_with fail
        refine (grow_calls n w (by omega)).mono ?_
        rintro e w1 ⟨v1, rfl, ho1, hb1⟩
        have HO1 := Aside0.mk ho1
        have HB1 := Aside0.mk hb1
        clear ho1 hb1
        go_wp2_with fail
        clear hi hil HK
        go_loopg [27, 6] (ll.length + 1) (fun kq v27 v6 w' => ∃ i : Nat, v27 = .int .i64 i ∧ Aside0 (i + kq = ll.length + 1) ∧ i ≤ ll.length ∧ Aside0 (Kd.R k31 31 w' w.heap.size (fun _ => True) v6 (ll.take i).flatten) ∧ Aside0 (Below w.heap.size w w'))
        case atStart => exact ⟨0, rfl, ⟨by omega⟩, Nat.zero_le _, HO1, HB1⟩
        case round =>
          clear HO1 HB1
          obtain ⟨i, rfl, HK, hi, HO, HB⟩ := hrel
          cases gk with
          | zero => exact absurd HK.out (by omega)
          | succ k2 =>
            by_cases hil : i < ll.length
            · obtain ⟨ad, A1, c1, e0, hx, hl1, hi1⟩ := at_L5 (Kd.C_below HC.out HB.out) (i : Int) (by omega) (by omega)
              cases e0
              simp only [Int.toNat_natCast] at hx
              have HF := Aside0.mk (take_flat ll i hil)
              have HLE := Aside0.mk (take_flat_le ll (i + 1))
              rw [HF.out, List.length_append] at HLE
              have HI := Aside0.mk hi1
              clear hl1 hi1
              generalize rd_L5 ll (i : Int) = x at hx HF HLE HI
              go_wp2_with (first | ((with_reducible refine gate_builtin (b := .append) (xs := #[.tmp 31, .tmp 32]) rfl ?_); at_builtin; refine Kd.R_append_rows k31 (w0 := w) w.heap.size rfl (.tmp 31) (.tmp 32) 22 31 (.agg #[(.string ⟨#[]⟩), (.bool false)]) 24 rfl Try.underlying22 info31 rfl (by decide) (by omega) u6 (ll.take i).flatten x A1 x.length c1 (fun _ => True) (fun _ => False) rfl rfl HO.out HI.out (fun x cs h => KM _ _ _ x cs h) (fun _ hk => hk.elim) (fun _ _ => trivial) HB.out HB.out.size ?aL ?_; (case aL => have := HLE.out; omega); intro v2 w6 ho hb hg_ hat_; clear hg_ hat_; rw [← HF.out] at ho; have HO6 := Aside0.mk ho; have HB6 := Aside0.mk hb; clear ho hb))
              go_roundg k2
              case measure => have := HK.out; omega
              case rel => exact ⟨i + 1, by go_num, ⟨by have := HK.out; omega⟩, by omega, HO6, HB6⟩
            · have HO2 : Aside0 (Kd.R k31 31 wr w.heap.size (fun _ => True) u6 ll.flatten) := ⟨by have := HO.out; rwa [List.take_of_length_le (by omega)] at this⟩
              go_wp2
              go_ret
              exact ⟨_, rfl, HO2.out, HB.out⟩
end Go.Proofs.Ytbpadimcnamdpaa.PK
/- lock: a row of wants, sorted in place by names. -/
namespace Go.Proofs.Ytbpadimcnamdpaa.PK
open Go.RowKit Go.Proofs.YtbpadimcnamdpaaW.PrintWords Go.Proofs.YtbpadimcnamdpaaW.PrintLast Go.Proofs.YtbpadimcnamdpaaW.PrintMore
instance : Inhabited W := ⟨z31⟩
def encW (x : W) : List Value := [.string x.f0, .bool x.f1]
theorem encW_len (x : W) : (encW x).length = 2 := rfl
theorem flat_at (d : Array W) (j : Nat) (hj : j < d.size * 2) : (Sort.flatK encW 2 d)[j]! = (encW d[j / 2]!)[j % 2]! := Sort.get_flatK encW 2 d j hj
theorem flat_chunk (d : Array W) (j : Nat) (hj : j < d.size) : ((Sort.flatK encW 2 d).toList.drop (j * 2)).take 2 = encW d[j]! := by
  have hl : (Sort.flatK encW 2 d).toList.length = d.size * 2 := by rw [Array.length_toList, Sort.size_flatK]
  apply List.ext_getElem
  · rw [List.length_take, List.length_drop, hl, encW_len]; omega
  · intro i h1 h2
    have hi : i < 2 := by rw [encW_len] at h2; exact h2
    rw [List.getElem_take, List.getElem_drop]
    have h3 := flat_at d (j * 2 + i) (by omega)
    rw [getElem!_pos _ _ (by rw [Sort.size_flatK]; omega), show (j * 2 + i) / 2 = j by omega, show (j * 2 + i) % 2 = i by omega, getElem!_pos _ _ (by rw [encW_len]; exact hi)] at h3
    rw [Array.getElem_toList]
    exact h3
theorem holds_of_R {w : World} {base g cap : Nat} {ok : Nat → Prop} {xs : List W} (h : k31.R 31 w base ok (.slice (some ⟨g, 0, none⟩) xs.length cap) xs) : Sort.HoldsK encW 2 w g 0 xs.toArray := by
  obtain ⟨hok, inner, ⟨hlen, hrow⟩, hlen2, hreps⟩ := h
  rcases hrow with ⟨he, _⟩ | ⟨g', cap', cur, he, hb, hheap, hle, hcm, hsz, htake⟩
  · cases he
  · injection he with he1 he2 he3
    injection he1 with he1
    injection he1 with he1
    subst he1
    intro j hj
    have hj2 : j < xs.length * 2 := by rw [Sort.size_flatK] at hj; simpa using hj
    have hi : j / 2 < xs.length := by omega
    constructor
    · unfold World.cell?
      rw [hheap]
      simp only [Option.isSome_none, Bool.false_eq_true, if_false, Nat.zero_add]
      rw [flat_at _ _ (by simpa using hj2)]
      have hc := hreps (j / 2) xs[j / 2] (List.getElem?_eq_getElem hi)
      have hch := k31_openM hc
      have h1 : inner[j]? = ((inner.drop (j / 2 * 2)).take 2)[j % 2]? := by
        rw [List.getElem?_take, if_pos (by omega), List.getElem?_drop, show j / 2 * 2 + j % 2 = j by omega]
      have h2 : cur[j]? = inner[j]? := by
        rw [← htake, List.getElem?_take, if_pos (by show j < xs.length * 2; exact hj2), Array.getElem?_toList]
      rw [h2, h1]
      show (List.take 2 (List.drop (j / 2 * 2) inner))[j % 2]? = _
      have hch' : List.take 2 (List.drop (j / 2 * 2) inner) = encW xs[j / 2] := hch
      rw [hch']
      have he : xs.toArray[j / 2]! = xs[j / 2] := by
        rw [getElem!_pos _ _ (by simpa using hi)]; simp
      rw [he, List.getElem?_eq_getElem (by rw [encW_len]; omega), getElem!_pos _ _ (by rw [encW_len]; omega)]
      rfl
    · unfold World.frozen?
      rw [hheap]
      simp
theorem R_sorted {w : World} {base g cap : Nat} {ok : Nat → Prop} {xs : List W} (h : k31.R 31 w base ok (.slice (some ⟨g, 0, none⟩) xs.length cap) xs) (m : Nat) (d : Array W) (os : Array Obj) (hs : d.size = xs.length) :
    k31.R 31 (sortWorldK encW 2 w g 0 m d os) base ok (.slice (some ⟨g, 0, none⟩) xs.length cap) d.toList ∧ w.grownBy (sortWorldK encW 2 w g 0 m d os) (some g) := by
  obtain ⟨hok, inner, ⟨hlen, hrow⟩, hlen2, hreps⟩ := h
  rcases hrow with ⟨he, _⟩ | ⟨g', cap', cur, he, hb, hheap, hle, hcm, hsz, htake⟩
  · cases he
  · injection he with he1 he2 he3
    injection he1 with he1
    injection he1 with he1
    subst he1 he3
    have hlt : g < w.heap.size := (Array.getElem?_eq_some_iff.1 hheap).1
    have hheap' : ∀ k, k < w.heap.size → (sortWorldK encW 2 w g 0 m d os).heap[k]? = if g = k then (w.heap[k]?).map (Sort.onCells (Sort.putCells id 0 (Sort.flatK encW 2 d))) else w.heap[k]? := by
      intro k hk
      show ((w.heap.modify g (Sort.onCells (Sort.putCells id 0 (Sort.flatK encW 2 d)))) ++ os)[k]? = _
      rw [Array.getElem?_append, if_pos (by rw [Array.size_modify]; exact hk), Array.getElem?_modify]
    have hg' : (sortWorldK encW 2 w g 0 m d os).heap[g]? = some (.cells (Sort.putCells id 0 (Sort.flatK encW 2 d) cur) 31 (0, 0)) := by
      rw [hheap' g hlt, if_pos rfl, hheap]
      rfl
    have hdl : d.toList.length = xs.length := (Array.length_toList (xs := d)).trans hs
    have hF : (Sort.flatK encW 2 d).toList.length = xs.length * 2 := by rw [Array.length_toList, Sort.size_flatK, hs]
    refine ⟨⟨hok, (Sort.flatK encW 2 d).toList, ⟨by rw [hF, hdl]; rfl, .inr ⟨g, cap, _, by rw [hdl], hb, hg', by rw [hdl]; exact hle, hcm, ?_, ?_⟩⟩, by rw [hF, hdl]; rfl, ?_⟩, ?_⟩
    · show (Array.mapIdx _ cur).size = _
      rw [Array.size_mapIdx]; exact hsz
    · rw [hdl]
      apply List.ext_getElem
      · rw [List.length_take, Array.length_toList, hF]
        show min _ (Array.mapIdx _ cur).size = _
        rw [Array.size_mapIdx, hsz]
        show min (xs.length * 2) (cap * 2) = _
        omega
      · intro i h1 h2
        rw [List.getElem_take, Array.getElem_toList, Array.getElem_toList]
        rw [hF] at h2
        unfold Sort.putCells
        rw [Array.getElem_mapIdx, if_pos ⟨Nat.zero_le _, by rw [Sort.size_flatK, hs]; omega⟩, Nat.sub_zero, getElem!_pos _ _ (by rw [Sort.size_flatK, hs]; exact h2)]
        rfl
    · intro j p hp
      have hj : j < d.size := by
        have := (List.getElem?_eq_some_iff.1 hp).1
        simpa using this
      have hpe : p = d[j]! := by
        rw [getElem!_pos d j hj]
        rw [Array.getElem?_toList, Array.getElem?_eq_getElem hj] at hp
        exact (Option.some.inj hp).symm
      show k31.M _ _ _ p (((Sort.flatK encW 2 d).toList.drop (j * 2)).take 2)
      rw [flat_chunk d j hj, ← hpe]
      exact k31_mkM _ _ _ p
    · refine ⟨rfl, rfl, rfl, ?_, fun k hk hne => ?_⟩
      · show w.heap.size ≤ ((w.heap.modify g _) ++ os).size
        rw [Array.size_append, Array.size_modify]; omega
      · rw [hheap' k hk, if_neg (fun e => hne (by rw [e]))]
def cmpW (x y : W) : Int := cmpS x.f0 y.f0
/-- A list, sorted by names. -/
def sortL (xs : List W) : List W := (Sort.insertionSort (ltOf cmpW) xs.toArray 0 xs.length).toList
set_option maxHeartbeats 1000000 in
set_option maxRecDepth 100000 in
theorem less_calls (x y : W) (w : World) : Calls Try.prog 24 #[.agg #[.string x.f0, .bool x.f1], .agg #[.string y.f0, .bool y.f1]] w fun e w' => e = .returned (.int .i64 (cmpW x y)) ∧ ∃ q os', w' = Sort.grow (w.drewN q) os' := by
  obtain ⟨r, hr⟩ : ∃ r, r = cmpW x y := ⟨_, rfl⟩
  rw [← hr]
  have HR : Aside0 (r = cmpS x.f0 y.f0) := ⟨hr⟩
  clear hr
  go_enter Try.func24, Try.ntmps24
  go_wp2_with fail
  refine (cmp_calls _ _ r HR _).mono ?_
  rintro e w1 ⟨rfl, rfl⟩
  go_wp2_with fail
  go_ret
  exact ⟨rfl, 0, _, by rw [Sort.alloc_eq_grow, Sort.alloc_eq_grow, Sort.grow_grow]; rfl⟩
theorem cmpLays (blk off size : Nat) (w : World) : CmpLays Try.prog 24 #[] encW 2 cmpW blk off size w :=
  fun _ _ _ _ x y => less_calls x y _
theorem size_ins (d : Array W) (a b : Nat) : (Sort.insertionSort (ltOf cmpW) d a b).size = d.size := by
  unfold Sort.insertionSort
  have inner : ∀ (j a : Nat) (d : Array W), (Sort.insInner (ltOf cmpW) a j d).size = d.size := by
    intro j
    induction j with
    | zero => intro a d; rfl
    | succ j ih =>
      intro a d
      simp only [Sort.insInner]
      split
      · rw [ih, Sort.size_swp]
      · rfl
  have outer : ∀ (n i : Nat) (d : Array W), b - i = n → (Sort.insOuter (ltOf cmpW) a b i d).size = d.size := by
    intro n
    induction n with
    | zero =>
      intro i d hi
      rw [Sort.insOuter, if_neg (by omega)]
    | succ n ih =>
      intro i d hi
      rw [Sort.insOuter, if_pos (by omega), ih (i + 1) _ (by omega), inner]
  exact outer _ _ d rfl
theorem ins_calls (A : Option Addr) (cap : Nat) (xs : List W) (a b base : Nat) (ok : Nat → Prop) (w : World) (h : k31.R 31 w base ok (.slice A xs.length cap) xs) (hab : a ≤ b) (hb : b ≤ xs.length) (hsm : xs.length ≤ 1073741824) :
    Calls Try.prog 45 #[.slice A xs.length cap, .int .i64 a, .int .i64 b, .func (.func 24) #[] #[]] w fun e w' => e = .returned (.tuple #[]) ∧ k31.R 31 w' base ok (.slice A xs.length cap) (Sort.insertionSort (ltOf cmpW) xs.toArray a b).toList ∧ w.grownBy w' (Value.slice A xs.length cap).ownBlock := by
  by_cases h0 : A = none
  · subst h0
    have hl : xs.length = 0 := by
      obtain ⟨hok, inner, ⟨hlen, hrow⟩, _⟩ := h
      rcases hrow with ⟨he, h0⟩ | ⟨g', cap', cur, he, _⟩
      · exact h0
      · cases he
    obtain rfl := List.eq_nil_of_length_eq_zero hl
    obtain rfl : b = 0 := by simpa using hb
    obtain rfl : a = 0 := by omega
    refine (AnyF.insertionSortCmpFunc_none Try.insW none cap _ w).mono ?_
    rintro e w1 ⟨rfl, rfl⟩
    refine ⟨rfl, ?_, rfl, rfl, rfl, Nat.le_refl _, fun _ _ _ => rfl⟩
    have : (Sort.insertionSort (ltOf cmpW) ([] : List W).toArray 0 0).toList = [] := by
      unfold Sort.insertionSort
      rw [Sort.insOuter, if_neg (by omega)]
    rw [this]
    exact h
  · obtain ⟨g, rfl⟩ : ∃ g, A = some ⟨g, 0, none⟩ := by
      obtain ⟨hok, inner, ⟨hlen, hrow⟩, _⟩ := h
      rcases hrow with ⟨he, _⟩ | ⟨g', cap', cur, he, _⟩
      · injection he with he; exact absurd he h0
      · injection he with he; exact ⟨g', he⟩
    have hlt : g < w.heap.size := Kd.R_lt h g (by simp [Value.ownBlock])
    have eg : ∀ args w, (callFunc 24 args).run Try.prog w = .ok (.enter 24 args) w := enters_of Try.func24 (by kernel_rfl) rfl
    have hcon := AnyQ.insertionSortCmpFunc Try.insW 2 Try.isAgg31 Try.sizeOf31 encW (fun _ => rfl) (fun x v hv => by simp [encW] at hv; rcases hv with rfl | rfl <;> rfl) cmpW 24 #[] g 0 cap a b xs.toArray w eg (cmpLays g 0 _ w) (holds_of_R h) hlt hab (by simpa using hb) (by simp; omega)
    refine hcon.mono ?_
    rintro e w1 ⟨rfl, n, os, rfl⟩
    have hs := R_sorted h n (Sort.insertionSort (ltOf cmpW) xs.toArray a b) os (by rw [size_ins _ _ _]; simp)
    exact ⟨rfl, hs.1, hs.2⟩
theorem ins_none (d : Array W) (a : Nat) : Sort.insertionSort (ltOf cmpW) d a a = d := by
  unfold Sort.insertionSort
  rw [Sort.insOuter, if_neg (by omega)]
theorem sortL_length (xs : List W) : (sortL xs).length = xs.length := by
  unfold sortL
  rw [Array.length_toList, size_ins]
  simp
theorem grown_trans {w w1 w2 : World} {row : Option Nat} (h : w.grownBy w1 row) (k : w1.grownBy w2 row) : w.grownBy w2 row :=
  ⟨k.os.trans h.os, k.tape.trans h.tape, k.output.trans h.output, Nat.le_trans h.size k.size, fun i hi hne => (k.block i (Nat.lt_of_lt_of_le hi h.size) hne).trans (h.block i hi hne)⟩
theorem ins_callsI (A : Option Addr) (cap : Nat) (zs : List W) (n : Nat) (hz : zs.length = n) (a b : Nat) (ai bi : Int) (hai : ai = (a : Int)) (hbi : bi = (b : Int)) (base : Nat) (ok : Nat → Prop) (w : World) (h : k31.R 31 w base ok (.slice A n cap) zs) (hab : a ≤ b) (hb : b ≤ n) (hsm : n ≤ 20) :
    Calls Try.prog 45 #[.slice A n cap, .int .i64 ai, .int .i64 bi, .func (.func 24) #[] #[]] w fun e w' => e = .returned (.tuple #[]) ∧ (k31.R 31 w' base ok (.slice A n cap) (Sort.insertionSort (ltOf cmpW) zs.toArray a b).toList ∧ w.grownBy w' (Value.slice A n cap).ownBlock) := by
  subst hai hbi hz
  exact ins_calls A cap zs a b base ok w h hab hb (by omega)
set_option maxHeartbeats 1000000 in
set_option maxRecDepth 100000 in
theorem stable_calls (A : Option Addr) (cap : Nat) (xs : List W) (base : Nat) (ok : Nat → Prop) (w : World) (h : k31.R 31 w base ok (.slice A xs.length cap) xs) (hsm : xs.length ≤ 20) :
    Calls Try.prog 38 #[.slice A xs.length cap, .int .i64 xs.length, .func (.func 24) #[] #[]] w fun e w' => e = .returned (.tuple #[]) ∧ k31.R 31 w' base ok (.slice A xs.length cap) (sortL xs) ∧ w.grownBy w' (Value.slice A xs.length cap).ownBlock := by
  have HO := Aside0.mk h
  clear h
  have HI := Aside0.mk (fun (a b : Nat) (ai bi : Int) (hai : ai = (a : Int)) (hbi : bi = (b : Int)) (w1 : World) (zs : List W) (hz : zs.length = xs.length) (h1 : k31.R 31 w1 base ok (.slice A xs.length cap) zs) (hab : a ≤ b) (hb : b ≤ xs.length) =>
    ins_callsI A cap zs xs.length hz a b ai bi hai hbi base ok w1 h1 hab hb hsm)
  have HL := Aside0.mk (sortL_length xs)
  go_enter Try.func38, Try.ntmps38
  go_wp2
  go_loopg [7, 8] 2 (fun kq v7 v8 w' => (v7 = .int .i64 0 ∧ v8 = .int .i64 20 ∧ kq = 2 ∧ w = w') ∨ (v7 = .int .i64 20 ∧ v8 = .int .i64 40 ∧ kq = 1 ∧ Aside0 (xs.length = 20) ∧ Aside0 (k31.R 31 w' base ok (.slice A xs.length cap) (sortL xs) ∧ w.grownBy w' (Value.slice A xs.length cap).ownBlock)))
  case atStart => exact .inl ⟨rfl, rfl, rfl, rfl⟩
  case round =>
    rcases hrel with ⟨rfl, rfl, rfl, rfl⟩ | ⟨rfl, rfl, rfl, H20, HR2⟩
    · by_cases h20 : xs.length = 20
      · have hle : (20 : Int) ≤ (xs.length : Int) := by omega
        have H20 := Aside0.mk h20
        clear h20
        go_wp2_with fail
        have h2 := HI.out 0 20 0 20 rfl rfl w xs rfl HO.out (by omega) (by have := H20.out; omega)
        refine h2.mono ?_
        rintro e w3 ⟨rfl, ho3, hg3⟩
        have HR3 : Aside0 (k31.R 31 w3 base ok (.slice A xs.length cap) (sortL xs) ∧ w.grownBy w3 (Value.slice A xs.length cap).ownBlock) := ⟨by unfold sortL; rw [H20.out]; rw [H20.out] at ho3; exact ho3, hg3⟩
        clear h2 ho3 hg3
        go_wp2_with fail
        go_roundg 1
        case measure => omega
        case rel => exact .inr ⟨rfl, rfl, rfl, H20, HR3⟩
      · have hle : ¬ (20 : Int) ≤ (xs.length : Int) := by omega
        have hlt : ¬ (20 : Int) < (xs.length : Int) := by omega
        go_wp2_with fail
        have h2 := HI.out 0 xs.length 0 xs.length rfl rfl w xs rfl HO.out (by omega) (by omega)
        refine h2.mono ?_
        rintro e w3 ⟨rfl, ho3, hg3⟩
        have HO3 := Aside0.mk ho3
        have HG3 := Aside0.mk hg3
        clear h2 ho3 hg3
        go_wp2_with fail
        go_loopg [6] 1 (fun kq v6 w' => v6 = .int .i64 20 ∧ w3 = w')
        case atStart => exact ⟨rfl, rfl⟩
        case round =>
          obtain ⟨rfl, rfl⟩ := hrel
          go_wp2
          go_end0
          exact ⟨rfl, HO3.out, HG3.out⟩
    · have hle : ¬ (40 : Int) ≤ (xs.length : Int) := by omega
      have hlt : ¬ (20 : Int) < (xs.length : Int) := by omega
      have hge : 20 ≤ xs.length := Nat.le_of_eq H20.out.symm
      go_wp2_with fail
      have h2 := HI.out 20 xs.length 20 xs.length rfl rfl wr (sortL xs) HL.out HR2.out.1 hge (by omega)
      refine h2.mono ?_
      rintro e w3 ⟨rfl, ho3, hg3⟩
      have HO3 : Aside0 (k31.R 31 w3 base ok (.slice A xs.length cap) (sortL xs)) := ⟨by rw [H20.out, ins_none] at ho3; exact H20.out ▸ ho3⟩
      have HG3 : Aside0 (w.grownBy w3 (Value.slice A xs.length cap).ownBlock) := ⟨grown_trans HR2.out.2 hg3⟩
      clear h2 ho3 hg3 HR2
      go_wp2_with fail
      go_loopg [6] 1 (fun kq v6 w' => v6 = .int .i64 20 ∧ w3 = w')
      case atStart => exact ⟨rfl, rfl⟩
      case round =>
        obtain ⟨rfl, rfl⟩ := hrel
        go_wp2
        go_end0
        exact ⟨rfl, HO3.out, HG3.out⟩
set_option maxRecDepth 100000 in
theorem sort_calls (A : Option Addr) (cap : Nat) (xs : List W) (base : Nat) (ok : Nat → Prop) (w : World) (h : k31.R 31 w base ok (.slice A xs.length cap) xs) (hsm : xs.length ≤ 20) :
    Calls Try.prog 23 #[.slice A xs.length cap, .func (.func 24) #[] #[]] w fun e w' => e = .returned (.tuple #[]) ∧ k31.R 31 w' base ok (.slice A xs.length cap) (sortL xs) ∧ w.grownBy w' (Value.slice A xs.length cap).ownBlock := by
  have HO := Aside0.mk h
  clear h
  go_enter Try.func23, Try.ntmps23
  go_wp2_with fail
  refine (stable_calls A cap xs base ok w HO.out hsm).mono ?_
  rintro e w1 ⟨rfl, ho, hg⟩
  have HO1 := Aside0.mk ho
  have HG1 := Aside0.mk hg
  clear ho hg
  go_wp2_with fail
  go_end0
  exact ⟨rfl, HO1.out, HG1.out⟩
end Go.Proofs.Ytbpadimcnamdpaa.PK
/- lock: the wants of all lists, united. -/
namespace Go.Proofs.Ytbpadimcnamdpaa.PK
open Go.RowKit Go.Proofs.YtbpadimcnamdpaaW.PrintWords Go.Proofs.YtbpadimcnamdpaaW.PrintLast Go.Proofs.YtbpadimcnamdpaaW.PrintMore
theorem info4 : (Try.prog.info? 4).map (·.size) = some 1 := by kernel_rfl
/-- One more want, behind wants that rise by names. -/
def uniStep (out : List W) (x : W) : List W := if 0 < out.length ∧ (rd_T31 out ((out.length - 1 : Nat) : Int)).f0.toList = x.f0.toList then out.set (out.length - 1) ⟨(rd_T31 out ((out.length - 1 : Nat) : Int)).f0, (rd_T31 out ((out.length - 1 : Nat) : Int)).f1 || x.f1⟩ else out ++ [x]
def uniL (zs : List W) : List W := zs.foldl uniStep []
theorem uniL_snoc (zs : List W) (k : Nat) (h : k < zs.length) : uniL (zs.take (k + 1)) = uniStep (uniL (zs.take k)) (rd_T31 zs (k : Int)) := by
  unfold uniL
  rw [List.take_succ_eq_append_getElem h, List.foldl_append, rd31_at zs k h]
  rfl
theorem uniStep_length (out : List W) (x : W) : (uniStep out x).length ≤ out.length + 1 := by
  unfold uniStep
  split
  · rw [List.length_set]; omega
  · simp
theorem uniL_length (zs : List W) : (uniL zs).length ≤ zs.length := by
  unfold uniL
  have : ∀ (zs out : List W), (zs.foldl uniStep out).length ≤ out.length + zs.length := by
    intro zs
    induction zs with
    | nil => intro out; simp
    | cons x r ih =>
      intro out
      rw [List.foldl_cons]
      have := ih (uniStep out x)
      have := uniStep_length out x
      simp only [List.length_cons]; omega
  simpa using this zs []
theorem flat31 {w : World} {base : Nat} {ok1 ok2 : Nat → Prop} {x : W} {cs : List Value} (h : k31.M w base ok1 x cs) : k31.M w base ok2 x cs := by
  rw [k31_openM h]
  exact k31_mkM w base ok2 x
set_option maxHeartbeats 2000000 in
set_option maxRecDepth 100000 in
theorem union_calls (A : Option Addr) (c : Nat) (ll : List (List W)) (w : World) (hC : Kd.C (Kd.slice 31 k31) w A ll.length ll) (hsm : (ll.flatten).length ≤ 20) :
    Calls Try.prog 11 #[.slice A ll.length c] w fun e w' => ∃ v, e = .returned v ∧ Kd.R k31 31 w' w.heap.size (fun _ => True) v (uniL (sortL ll.flatten)) ∧ Below w.heap.size w w' := by
  have hcon := concat_calls A c ll w hC (by omega)
  clear hC
  generalize ll.flatten = xs at hcon hsm ⊢
  have HCON := Aside0.mk hcon
  clear hcon
  go_enter Try.func11, Try.ntmps11
  go_wp2_with fail
  refine HCON.out.mono ?_
  rintro e w1 ⟨v3, rfl, ho1, hb1⟩
  obtain ⟨A3, c3, rfl⟩ := Kd.R_slice ho1
  have HO1 := Aside0.mk ho1
  have HB1 := Aside0.mk hb1
  clear ho1 hb1
  go_wp2_with fail
  refine (sort_calls A3 c3 xs _ _ w1 HO1.out hsm).mono ?_
  rintro e w2 ⟨rfl, ho2, hg2⟩
  have HB2 := Aside0.mk (HB1.out.grown hg2 HB1.out.size (fun k hk => Kd.R_base HO1.out k hk))
  have hlen := sortL_length xs
  obtain ⟨zs, hzs⟩ : ∃ zs, zs = sortL xs := ⟨_, rfl⟩
  rw [← hzs] at ho2 hlen
  have HZS := Aside0.mk hzs
  clear hzs
  rw [← hlen] at ho2 hsm
  rw [← hlen]
  have HO2 := Aside0.mk (Kd.R_flat (ok' := fun k => some k = (Value.slice A3 zs.length c3).ownBlock) flat31 ho2 (fun k hk _ => hk.symm))
  clear ho2 hg2 HO1 HB1 hlen
  go_wp2_with fail
  have hv3 : ∀ k, some k = (Value.slice A3 zs.length c3).ownBlock → k < w2.heap.size := fun k hk => Kd.R_lt HO2.out k hk.symm
  have HV3 := Aside0.mk hv3
  clear hv3
  go_loopg [14, 4] (zs.length + 1) (fun kq v14 v4 w' => ∃ k : Nat, v14 = .int .i64 k ∧ Aside0 (k + kq = zs.length + 1) ∧ k ≤ zs.length ∧ Aside0 (Kd.R k31 31 w' w.heap.size (fun b => some b ≠ (Value.slice A3 zs.length c3).ownBlock) v4 (uniL (zs.take k))) ∧ Aside0 (Kd.R k31 31 w' w.heap.size (fun b => some b = (Value.slice A3 zs.length c3).ownBlock) (Value.slice A3 zs.length c3) zs) ∧ Aside0 (Below w.heap.size w w'))
  case atStart => exact ⟨0, rfl, ⟨by omega⟩, Nat.zero_le _, ⟨(Kd.R_nil k31 31 w2 w.heap.size _ : _)⟩, HO2, HB2⟩
  case round =>
    clear HO2 HB2 HV3
    obtain ⟨k, rfl, HK, hk, HO4, HO3, HB⟩ := hrel
    cases gk with
    | zero => exact absurd HK.out (by omega)
    | succ k1 =>
      by_cases hkl : k < zs.length
      · obtain ⟨ad, e0, hx0, hx1⟩ := at_T31 (Kd.R_reads' HO3.out).2.2 (k : Int) (by omega) (by omega)
        cases e0
        simp only [Int.toNat_natCast] at hx0 hx1
        have HU := Aside0.mk (uniL_snoc zs k hkl)
        have HUL := Aside0.mk (uniL_length (zs.take k))
        have hul : (uniL (zs.take k)).length ≤ 20 := by have := HUL.out; rw [List.length_take] at this; omega
        obtain ⟨x, hx⟩ : ∃ x, x = rd_T31 zs (k : Int) := ⟨_, rfl⟩
        rw [← hx] at hx0 hx1 HU
        clear hx HUL
        generalize uniL (zs.take k) = out at HO4 HU hul
        obtain ⟨A4, c4, rfl⟩ := Kd.R_slice HO4.out
        by_cases hpos : 0 < out.length
        · obtain ⟨m, hm⟩ : ∃ m, out.length = m + 1 := ⟨out.length - 1, by omega⟩
          have hml : (m : Int) < (out.length : Int) := by omega
          have e1 : IntKind.i64.wrap ((out.length : Int) - 1) = (m : Int) := by rw [IntKind.wrap_i64]; omega
          have hposI : (0 : Int) < (out.length : Int) := by omega
          have HM := Aside0.mk hm
          have HU3 : Aside0 (uniL (zs.take (k + 1)) = if (rd_T31 out (m : Int)).f0.toList = x.f0.toList then out.set m ⟨(rd_T31 out (m : Int)).f0, (rd_T31 out (m : Int)).f1 || x.f1⟩ else out ++ [x]) := ⟨by
            rw [HU.out]; unfold uniStep
            rw [show out.length - 1 = m by omega]
            by_cases h : (rd_T31 out (m : Int)).f0.toList = x.f0.toList
            · rw [if_pos ⟨hpos, h⟩, if_pos h]
            · rw [if_neg (fun hh => h hh.2), if_neg h]⟩
          clear HU hm
          obtain ⟨y, hy⟩ : ∃ y, y = rd_T31 out (m : Int) := ⟨_, rfl⟩
          rw [← hy] at HU3
          have HY := Aside0.mk hy
          clear hy
          by_cases hE : y.f0.toList = x.f0.toList
          · have hE1 : (y.f0.toList == x.f0.toList) = true := beq_iff_eq.2 hE
            have HU2 : Aside0 (uniL (zs.take (k + 1)) = out.set m ⟨y.f0, y.f1 || x.f1⟩) := ⟨by rw [HU3.out, if_pos hE]⟩
            clear HU3 hE
            go_wp2_with fail
            have hy0 : (wr.alloc (.cells #[.string x.f0, .bool x.f1] 31)).cell? ⟨wr.heap.size, 0, none⟩ = some (.string x.f0) := blk_cell (blk_new wr _) 0
            have hy1 : (wr.alloc (.cells #[.string x.f0, .bool x.f1] 31)).cell? ⟨wr.heap.size, 1, none⟩ = some (.bool x.f1) := blk_cell (blk_new wr _) 1
            replace HO4 := Aside0.mk (Kd.R_alloc HO4.out (.cells #[.string x.f0, .bool x.f1] 31))
            replace HO3 := Aside0.mk (Kd.R_alloc HO3.out (.cells #[.string x.f0, .bool x.f1] 31))
            replace HB := Aside0.mk (below_alloc HB.out (.cells #[.string x.f0, .bool x.f1] 31))
            clear hx0 hx1
            generalize hgw : wr.heap.size = gw at hy0 hy1 ⊢
            generalize (wr.alloc (.cells #[.string x.f0, .bool x.f1] 31)) = W5 at hy0 hy1 HO4 HO3 HB ⊢
            obtain ⟨ad4, e4, hz0, hz1⟩ := at_T31 (Kd.R_reads' HO4.out).2.2 (m : Int) (by omega) hml
            obtain ⟨g4, c4', ef, _, _, _⟩ := Kd.R_form HO4.out (by omega)
            injection ef with ef1 _ ef3
            subst ef1 ef3
            injection e4 with e4
            subst e4
            rw [← HY.out] at hz0 hz1
            simp only [Int.toNat_natCast] at hz0 hz1
            have hadd : (⟨g4, 0, none⟩ : Addr).add (m * 2) = ⟨g4, m * 2, none⟩ := by rw [add_at, Nat.zero_add]
            rw [hadd] at hz0 hz1
            dsimp only at hz1
            clear hadd
            go_quiet (fail)
            replace hy0 : (W5.drewN nq).cell? ⟨gw, 0, none⟩ = some (.string x.f0) := hy0
            replace hy1 : (W5.drewN nq).cell? ⟨gw, 1, none⟩ = some (.bool x.f1) := hy1
            replace hz0 : (W5.drewN nq).cell? ⟨g4, m * 2, none⟩ = some (.string y.f0) := hz0
            replace hz1 : (W5.drewN nq).cell? ⟨g4, m * 2 + 1, none⟩ = some (.bool y.f1) := hz1
            replace HO4 := Aside0.mk (Kd.R_drewN HO4.out nq)
            replace HO3 := Aside0.mk (Kd.R_drewN HO3.out nq)
            replace HB := Aside0.mk (pw_below_drewN HB.out nq)
            generalize W5.drewN nq = W6 at hy0 hy1 hz0 hz1 HO4 HO3 HB ⊢
            cases hyf : y.f1 with
            | true =>
              rw [hyf] at HU2 hz1
              change Aside0 (uniL (zs.take (k + 1)) = out.set m ⟨y.f0, true⟩) at HU2
              go_wp2_with (first | ((with_reducible refine gate_store (t := 4) (p := 47) rfl ?_); refine Kd.R_store k31 (w0 := w) w.heap.size rfl rfl 4 (.tmp 47) (.tmp 45) rfl 31 (m : Int) 1 out ⟨y.f0, true⟩ (.bool true) [.bool true] [.string y.f0, .bool true] (fun b => some b ≠ (Value.slice (some ad) zs.length c3).ownBlock) (fun _ => False) rfl ?so rfl rfl info4 (fun q hq => by rcases List.mem_singleton.1 hq with rfl; rfl) HO4.out (by omega) hml rfl ?sc (Nat.le_refl _) ?sm (fun _ hk => hk.elim) HB.out ?_; (case so => rfl); (case sc => exact fun j u hj => by match j, hj with | 0, hj => cases hj; exact hz0 | 1, hj => cases hj; exact hz1 | (j + 2), hj => simp at hj); (case sm => exact k31_mkM _ _ _ ⟨y.f0, true⟩); intro w7 ho hb hg_; rw [Int.toNat_natCast, ← HU2.out] at ho; have HO5 := Aside0.mk ho; have HB5 := Aside0.mk hb; have HO6 := Aside0.mk (Kd.R_grown HO3.out hg_ (fun k hk he => HO4.out.1 k he.symm hk)); clear hg_ ho hb HO3 HO4 HB hz0 hz1 hy0 hy1))
              go_roundg k1
              case measure => have := HK.out; omega
              case rel => exact ⟨k + 1, by go_num, ⟨by have := HK.out; omega⟩, by omega, HO5, HO6, HB5⟩
            | false =>
              rw [hyf] at HU2 hz1
              change Aside0 (uniL (zs.take (k + 1)) = out.set m ⟨y.f0, x.f1⟩) at HU2
              go_wp2_with (first | ((with_reducible refine gate_store (t := 4) (p := 47) rfl ?_); refine Kd.R_store k31 (w0 := w) w.heap.size rfl rfl 4 (.tmp 47) (.tmp 45) rfl 31 (m : Int) 1 out ⟨y.f0, x.f1⟩ (.bool x.f1) [.bool x.f1] [.string y.f0, .bool false] (fun b => some b ≠ (Value.slice (some ad) zs.length c3).ownBlock) (fun _ => False) rfl ?so rfl rfl info4 (fun q hq => by rcases List.mem_singleton.1 hq with rfl; rfl) HO4.out (by omega) hml rfl ?sc (Nat.le_refl _) ?sm (fun _ hk => hk.elim) HB.out ?_; (case so => rfl); (case sc => exact fun j u hj => by match j, hj with | 0, hj => cases hj; exact hz0 | 1, hj => cases hj; exact hz1 | (j + 2), hj => simp at hj); (case sm => exact k31_mkM _ _ _ ⟨y.f0, x.f1⟩); intro w7 ho hb hg_; rw [Int.toNat_natCast, ← HU2.out] at ho; have HO5 := Aside0.mk ho; have HB5 := Aside0.mk hb; have HO6 := Aside0.mk (Kd.R_grown HO3.out hg_ (fun k hk he => HO4.out.1 k he.symm hk)); clear hg_ ho hb HO3 HO4 HB hz0 hz1 hy0 hy1))
              go_roundg k1
              case measure => have := HK.out; omega
              case rel => exact ⟨k + 1, by go_num, ⟨by have := HK.out; omega⟩, by omega, HO5, HO6, HB5⟩
          · have hE1 : (y.f0.toList == x.f0.toList) = false := beq_eq_false_iff_ne.2 hE
            have HU2 : Aside0 (uniL (zs.take (k + 1)) = out ++ [x]) := ⟨by rw [HU3.out, if_neg hE]⟩
            clear HU3 hE
            go_wp2_with fail
            have hy0 : (wr.alloc (.cells #[.string x.f0, .bool x.f1] 31)).cell? ⟨wr.heap.size, 0, none⟩ = some (.string x.f0) := blk_cell (blk_new wr _) 0
            have hy1 : (wr.alloc (.cells #[.string x.f0, .bool x.f1] 31)).cell? ⟨wr.heap.size, 1, none⟩ = some (.bool x.f1) := blk_cell (blk_new wr _) 1
            replace HO4 := Aside0.mk (Kd.R_alloc HO4.out (.cells #[.string x.f0, .bool x.f1] 31))
            replace HO3 := Aside0.mk (Kd.R_alloc HO3.out (.cells #[.string x.f0, .bool x.f1] 31))
            replace HB := Aside0.mk (below_alloc HB.out (.cells #[.string x.f0, .bool x.f1] 31))
            clear hx0 hx1
            generalize hgw : wr.heap.size = gw at hy0 hy1 ⊢
            generalize (wr.alloc (.cells #[.string x.f0, .bool x.f1] 31)) = W5 at hy0 hy1 HO4 HO3 HB ⊢
            obtain ⟨ad4, e4, hz0, hz1⟩ := at_T31 (Kd.R_reads' HO4.out).2.2 (m : Int) (by omega) hml
            obtain ⟨g4, c4', ef, _, _, _⟩ := Kd.R_form HO4.out (by omega)
            injection ef with ef1 _ ef3
            subst ef1 ef3
            injection e4 with e4
            subst e4
            rw [← HY.out] at hz0 hz1
            simp only [Int.toNat_natCast] at hz0 hz1
            have hadd : (⟨g4, 0, none⟩ : Addr).add (m * 2) = ⟨g4, m * 2, none⟩ := by rw [add_at, Nat.zero_add]
            rw [hadd] at hz0 hz1
            dsimp only at hz1
            clear hadd
            go_quiet (fail)
            replace hy0 : (W5.drewN nq).cell? ⟨gw, 0, none⟩ = some (.string x.f0) := hy0
            replace hy1 : (W5.drewN nq).cell? ⟨gw, 1, none⟩ = some (.bool x.f1) := hy1
            replace hz0 : (W5.drewN nq).cell? ⟨g4, m * 2, none⟩ = some (.string y.f0) := hz0
            replace hz1 : (W5.drewN nq).cell? ⟨g4, m * 2 + 1, none⟩ = some (.bool y.f1) := hz1
            replace HO4 := Aside0.mk (Kd.R_drewN HO4.out nq)
            replace HO3 := Aside0.mk (Kd.R_drewN HO3.out nq)
            replace HB := Aside0.mk (pw_below_drewN HB.out nq)
            generalize W5.drewN nq = W6 at hy0 hy1 hz0 hz1 HO4 HO3 HB ⊢
            clear hz0 hz1
            have HFR : Aside0 (∀ k, W6.heap.size ≤ k → some k ≠ (Value.slice (some ad) zs.length c3).ownBlock) := ⟨fun k hk he => absurd (Kd.R_lt HO3.out k he.symm) (by omega)⟩
            go_wp2_with (first | ((with_reducible refine gate_builtin (b := .append) (xs := #[.tmp 48, .tmp 50]) rfl ?_); at_builtin; refine Kd.R_append k31 (w0 := w) w.heap.size rfl (.tmp 48) (.tmp 50) 22 31 (.agg #[(.string ⟨#[]⟩), (.bool false)]) 24 rfl Try.underlying22 info31 rfl (by decide) (by omega) (.slice (some ⟨g4, 0, none⟩) out.length c4) out x [.string x.f0, .bool x.f1] (fun b => some b ≠ (Value.slice (some ad) zs.length c3).ownBlock) (fun _ => False) rfl rfl (k31_mkM _ _ _ x) (fun _ hk => hk.elim) HFR.out HO4.out HB.out HB.out.size (by omega) ?_; intro v1 w7 ho hb hg_ hat_; rw [← HU2.out] at ho; have HO5 := Aside0.mk ho; have HB5 := Aside0.mk hb; have HO6 := Aside0.mk (Kd.R_grown HO3.out hg_ (fun k hk he => HO4.out.1 k he.symm hk)); clear hg_ hat_ ho hb HO3 HO4 HB))
            go_roundg k1
            case measure => have := HK.out; omega
            case rel => exact ⟨k + 1, by go_num, ⟨by have := HK.out; omega⟩, by omega, HO5, HO6, HB5⟩
        · have HU2 : Aside0 (uniL (zs.take (k + 1)) = out ++ [x]) := ⟨by rw [HU.out]; unfold uniStep; rw [if_neg (by omega)]⟩
          clear HU
          go_wp2_with fail
          go_quiet (fail)
          have hy0 : ((wr.alloc (.cells #[.string x.f0, .bool x.f1] 31)).drewN nq).cell? ⟨wr.heap.size, 0, none⟩ = some (.string x.f0) := blk_cell (blk_new wr _) 0
          have hy1 : ((wr.alloc (.cells #[.string x.f0, .bool x.f1] 31)).drewN nq).cell? ⟨wr.heap.size, 1, none⟩ = some (.bool x.f1) := blk_cell (blk_new wr _) 1
          replace HO4 := Aside0.mk (Kd.R_drewN (Kd.R_alloc HO4.out (.cells #[.string x.f0, .bool x.f1] 31)) nq)
          replace HO3 := Aside0.mk (Kd.R_drewN (Kd.R_alloc HO3.out (.cells #[.string x.f0, .bool x.f1] 31)) nq)
          replace HB := Aside0.mk (pw_below_drewN (below_alloc HB.out (.cells #[.string x.f0, .bool x.f1] 31)) nq)
          clear hx0 hx1
          generalize ((wr.alloc (.cells #[.string x.f0, .bool x.f1] 31)).drewN nq) = W6 at hy0 hy1 HO4 HO3 HB ⊢
          have HFR : Aside0 (∀ k, W6.heap.size ≤ k → some k ≠ (Value.slice (some ad) zs.length c3).ownBlock) := ⟨fun k hk he => absurd (Kd.R_lt HO3.out k he.symm) (by omega)⟩
          go_wp2_with (first | ((with_reducible refine gate_builtin (b := .append) (xs := #[.tmp 48, .tmp 50]) rfl ?_); at_builtin; refine Kd.R_append k31 (w0 := w) w.heap.size rfl (.tmp 48) (.tmp 50) 22 31 (.agg #[(.string ⟨#[]⟩), (.bool false)]) 24 rfl Try.underlying22 info31 rfl (by decide) (by omega) (.slice A4 out.length c4) out x [.string x.f0, .bool x.f1] (fun b => some b ≠ (Value.slice (some ad) zs.length c3).ownBlock) (fun _ => False) rfl rfl (k31_mkM _ _ _ x) (fun _ hk => hk.elim) HFR.out HO4.out HB.out HB.out.size (by omega) ?_; intro v1 w7 ho hb hg_ hat_; rw [← HU2.out] at ho; have HO5 := Aside0.mk ho; have HB5 := Aside0.mk hb; have HO6 := Aside0.mk (Kd.R_grown HO3.out hg_ (fun k hk he => HO4.out.1 k he.symm hk)); clear hg_ hat_ ho hb HO3 HO4 HB))
          go_roundg k1
          case measure => have := HK.out; omega
          case rel => exact ⟨k + 1, by go_num, ⟨by have := HK.out; omega⟩, by omega, HO5, HO6, HB5⟩
      · have HE : Aside0 (Kd.R k31 31 wr w.heap.size (fun _ => True) u4 (uniL zs)) := ⟨by have := Kd.R_mono HO4.out (fun _ _ => trivial); rwa [List.take_of_length_le (by omega)] at this⟩
        go_wp2
        go_ret
        exact ⟨_, rfl, by rw [← HZS.out]; exact HE.out, HB.out⟩
end Go.Proofs.Ytbpadimcnamdpaa.PK
/- lock: a table in memory; New, Ask. -/
namespace Go.Proofs.Ytbpadimcnamdpaa.PK
open Go.RowKit Go.Proofs.YtbpadimcnamdpaaW.PrintWords Go.Proofs.YtbpadimcnamdpaaW.PrintLast Go.Proofs.YtbpadimcnamdpaaW.PrintMore
/-- A table at block g: its asks in a row of its own, the wants in rows of theirs; S: the blocks that are the table's; none lies below base. -/
structure TabAt (w : World) (base : Nat) (S : Nat → Prop) (g : Nat) (l : List Ask) : Prop where
  own : S g
  ge : base ≤ g
  row : ∃ A c, w.heap[g]? = some (.cells #[.slice A l.length c] 52 (0, 0)) ∧ Kd.R k61 61 w base (fun k => S k ∧ k ≠ g) (.slice A l.length c) l
theorem TabAt.cell {w : World} {base g : Nat} {S : Nat → Prop} {l : List Ask} (h : TabAt w base S g l) : ∃ A c, w.cell? ⟨g, 0, none⟩ = some (.slice A l.length c) ∧ Kd.C k61 w A l.length l := by
  obtain ⟨A, c, h1, h2⟩ := h.row
  exact ⟨A, c, (blk_cell h1 0).trans rfl, (Kd.R_reads' h2).2.2⟩
theorem TabAt.lt {w : World} {base g : Nat} {S : Nat → Prop} {l : List Ask} (h : TabAt w base S g l) : g < w.heap.size := by
  obtain ⟨A, c, h1, _⟩ := h.row
  exact blk_lt h1
theorem TabAt.below {w w1 : World} {base g : Nat} {S : Nat → Prop} {l : List Ask} (h : TabAt w base S g l) (hb : Below w.heap.size w w1) : TabAt w1 base S g l := by
  obtain ⟨A, c, h1, h2⟩ := h.row
  exact ⟨h.own, h.ge, A, c, (hb.block g (blk_lt h1)).trans h1, Kd.R_below h2 hb⟩
set_option maxRecDepth 100000 in
theorem New_calls (w : World) : Calls Try.prog 13 #[] w fun e w' => e = .returned (.pointer (some ⟨w.heap.size, 0, none⟩)) ∧ TabAt w' w.heap.size (fun k => w.heap.size ≤ k) w.heap.size [] ∧ Below w.heap.size w w' := by
  go_enter Try.func13, Try.ntmps13
  go_wp2
  go_ret
  exact ⟨rfl, ⟨Nat.le_refl _, Nat.le_refl _, none, 0, blk_new w _, Kd.R_nil _ _ _ _ _⟩, below_alloc (Below.refl _ _) _⟩
end Go.Proofs.Ytbpadimcnamdpaa.PK
/- lock: Ask. -/
namespace Go.Proofs.Ytbpadimcnamdpaa.PK
open Go.RowKit Go.Proofs.YtbpadimcnamdpaaW.PrintWords Go.Proofs.YtbpadimcnamdpaaW.PrintLast Go.Proofs.YtbpadimcnamdpaaW.PrintMore
/-- All blocks but those in S are as they were. -/
structure Kp (S : Nat → Prop) (w w' : World) : Prop where
  os : w'.os = w.os
  tape : w'.tape = w.tape
  output : w'.output = w.output
  size : w.heap.size ≤ w'.heap.size
  block : ∀ k, k < w.heap.size → ¬ S k → w'.heap[k]? = w.heap[k]?
theorem Kp.of_below {S : Nat → Prop} {w w' : World} (h : Below w.heap.size w w') : Kp S w w' := ⟨h.os, h.tape, h.output, h.size, fun k hk _ => h.block k hk⟩
theorem Kp.trans {S : Nat → Prop} {w w1 w2 : World} (h : Kp S w w1) (k : Kp S w1 w2) : Kp S w w2 :=
  ⟨k.os.trans h.os, k.tape.trans h.tape, k.output.trans h.output, Nat.le_trans h.size k.size, fun i hi hn => (k.block i (Nat.lt_of_lt_of_le hi h.size) hn).trans (h.block i hi hn)⟩
theorem Kp.refl (S : Nat → Prop) (w : World) : Kp S w w := ⟨rfl, rfl, rfl, Nat.le_refl _, fun _ _ _ => rfl⟩
theorem Kp.of_grown {S : Nat → Prop} {w w' : World} {row : Option Nat} (h : w.grownBy w' row) (hr : ∀ k, row = some k → S k) : Kp S w w' :=
  ⟨h.os, h.tape, h.output, h.size, fun k hk hn => h.block k hk (fun e => hn (hr k e.symm))⟩
theorem Kp.of_set {S : Nat → Prop} {w : World} {g j : Nat} {v : Value} (hg : S g) : Kp S w (w.setCell ⟨g, j, none⟩ v) := by
  refine ⟨rfl, rfl, rfl, ?_, fun k hk hn => Below.heap_setCell w ⟨g, j, none⟩ v k (fun e => hn (by rw [e]; exact hg))⟩
  show _ ≤ (Array.modify _ _ _).size
  rw [Array.size_modify]
  exact Nat.le_refl _
theorem info61 : (Try.prog.info? 61).map (fun i => (i.zero, i.size, i.bytes)) = some (some (.agg #[.slice none 0 0, .int .i64 0, .bool false]), 3, 40) := by kernel_rfl
theorem C_lit {W1 : World} {b t : Nat} {A : Option Addr} {c : Nat} {ws : List W} (hb : W1.heap[b]? = some (.cells #[.slice A ws.length c] t (0, 0))) (hc : ws.length ≤ c) (hW : Kd.C k31 W1 A ws.length ws) : Kd.C (Kd.slice 31 k31) W1 (some ⟨b, 0, none⟩) [ws].length [ws] := by
  refine ⟨rfl, by simp, fun _ => ⟨⟨b, 0, none⟩, rfl, fun j p hj => ?_⟩⟩
  have hj0 : j = 0 := by
    have := (List.getElem?_eq_some_iff.1 hj).1
    simpa using this
  subst hj0
  obtain rfl : ws = p := by simpa using hj
  refine ⟨[.slice A ws.length c], rfl, ⟨A, c, rfl, hc, hW⟩, fun i u hu => ?_⟩
  have hi0 : i = 0 := by
    have := (List.getElem?_eq_some_iff.1 hu).1
    simpa using this
  subst hi0
  obtain rfl : Value.slice A ws.length c = u := by simpa using hu
  have := blk_cell hb 0
  simpa [add_plain] using this
theorem flat_one (ws : List W) : [ws].flatten = ws := by simp
def askCode (l : List Ask) (id : Int) : Int := if id < 0 then 1 else if 0 ≤ findI l id then 9 else 0
def askL (l : List Ask) (id : Int) (ws : List W) : List Ask := if askCode l id = 0 then l ++ [⟨⟨uniL (sortL ws)⟩, id, false⟩] else l
/-- What stands behind the call of Union, within Ask. -/
structure AtU (w1 w5 : World) (base g : Nat) (S : Nat → Prop) (l : List Ask) (A0 : Option Addr) (c0 : Nat) (A5 : Option Addr) (c5 : Nat) (us : List W) (id : Int) : Prop where
  below : Below w1.heap.size w1 w5
  row : Kd.R k61 61 w5 base (fun k => S k ∧ k ≠ g) (.slice A0 l.length c0) l
  new : k61.M w5 base (fun k => w1.heap.size + 1 ≤ k) ⟨⟨us⟩, id, false⟩ [.slice A5 us.length c5, .int .i64 id, .bool false]
  okp : ∀ k, w1.heap.size + 1 ≤ k → (S k ∧ k ≠ g) ∧ some k ≠ (Value.slice A0 l.length c0).ownBlock
  fresh : ∀ k, w5.heap.size ≤ k → S k ∧ k ≠ g
  base_le : base ≤ w5.heap.size
  blk : w5.heap[g]? = some (.cells #[.slice A0 l.length c0] 52 (0, 0))
  glt : g < w5.heap.size
theorem AtU.mk' {w1 w5 : World} {base g : Nat} {S : Nat → Prop} {l : List Ask} {A0 : Option Addr} {c0 : Nat} {A5 : Option Addr} {c5 : Nat} {us : List W} {id : Int} {o : Obj}
    (hb1 : base ≤ w1.heap.size) (hg : g < w1.heap.size) (hfr : ∀ k, w1.heap.size ≤ k → S k) (hrow : Kd.R k61 61 w1 base (fun k => S k ∧ k ≠ g) (.slice A0 l.length c0) l) (hblk : w1.heap[g]? = some (.cells #[.slice A0 l.length c0] 52 (0, 0)))
    (ho5 : Kd.R k31 31 w5 (w1.heap.size + 1) (fun _ => True) (.slice A5 us.length c5) us) (hb5 : Below (w1.heap.size + 1) ((w1.alloc o).drew) w5) : AtU w1 w5 base g S l A0 c0 A5 c5 us id := by
  have hb : Below w1.heap.size w1 w5 := (below_drew (below_alloc (Below.refl _ _) o)).trans ⟨hb5.os, hb5.tape, hb5.output, hb5.size, fun k hk => hb5.block k (by omega)⟩
  have hl := hb.size
  exact ⟨hb, Kd.R_below hrow hb, k61_mkM _ _ _ ⟨⟨us⟩, id, false⟩ (Kd.R_lower (Kd.R_mono (Kd.R_bound ho5) (fun k hk => hk.2.1)) (by omega)),
    fun k hk => ⟨⟨hfr k (by omega), by omega⟩, fun he => absurd (Kd.R_lt hrow k he.symm) (by omega)⟩,
    fun k hk => ⟨hfr k (by omega), by omega⟩, by omega, (hb.block g hg).trans hblk, by omega⟩
set_option maxHeartbeats 2000000 in
set_option maxRecDepth 100000 in
theorem ask_calls (base g : Nat) (S : Nat → Prop) (l : List Ask) (id : Int) (A : Option Addr) (c : Nat) (ws : List W) (w : World) (hT : TabAt w base S g l) (hW : Kd.C k31 w A ws.length ws) (hc : ws.length ≤ c) (hws : ws.length ≤ 20) (hsm : l.length ≤ 1073741824) (hfr : ∀ k, w.heap.size ≤ k → S k) :
    Calls Try.prog 21 #[.pointer (some ⟨g, 0, none⟩), .int .i64 id, .slice A ws.length c] w fun e w' => e = .returned (.int .i64 (askCode l id)) ∧ TabAt w' base S g (askL l id ws) ∧ Kp S w w' := by
  have HT := Aside0.mk hT
  have HW := Aside0.mk hW
  have HFR := Aside0.mk hfr
  obtain ⟨A0, c0, hblk, hrow⟩ := hT.row
  have hcell : w.cell? ⟨g, 0, none⟩ = some (.slice A0 l.length c0) := (blk_cell hblk 0).trans rfl
  have HC := Aside0.mk (Kd.R_reads' hrow).2.2
  have HBLK := Aside0.mk hblk
  have HROW := Aside0.mk hrow
  clear hT hW hblk hrow hfr
  by_cases hneg : id < 0
  · have HA : Aside0 (askCode l id = 1) := ⟨by unfold askCode; rw [if_pos hneg]⟩
    go_enter Try.func21, Try.ntmps21
    go_wp2
    go_ret
    exact ⟨by rw [HA.out]; rfl, by unfold askL; rw [HA.out, if_neg (by decide)]; exact HT.out, Kp.refl _ _⟩
  · obtain ⟨r, hr⟩ : ∃ r, r = findI l id := ⟨_, rfl⟩
    have HR := Aside0.mk hr
    clear hr
    go_enter Try.func21, Try.ntmps21
    go_wp2_with fail
    refine (find_calls g id r A0 c0 l w hcell HC.out HR).mono ?_
    rintro e w1 ⟨rfl, hb1⟩
    have HB1 := Aside0.mk hb1
    by_cases hpos : 0 ≤ r
    · have HA : Aside0 (askCode l id = 9) := ⟨by unfold askCode; rw [if_neg (by omega), if_pos (by rw [← HR.out]; exact hpos)]⟩
      have hge : r ≥ 0 := hpos
      clear hb1
      go_wp2_with fail
      go_ret
      exact ⟨by rw [HA.out]; rfl, by unfold askL; rw [HA.out, if_neg (by decide)]; exact HT.out.below HB1.out, Kp.of_below HB1.out⟩
    · have HA : Aside0 (askCode l id = 0) := ⟨by unfold askCode; rw [if_neg (by omega), if_neg (by rw [← HR.out]; exact hpos)]⟩
      have hge : ¬ r ≥ 0 := hpos
      have hcell1 := (hb1.cell (p := ⟨g, 0, none⟩) HT.out.lt).trans hcell
      have hlt1 := Nat.lt_of_lt_of_le HT.out.lt hb1.size
      replace HBLK := Aside0.mk ((hb1.block g HT.out.lt).trans HBLK.out)
      replace HROW := Aside0.mk (Kd.R_below HROW.out hb1)
      replace HW := Aside0.mk (Kd.C_below HW.out hb1)
      have hbase1 : base ≤ w1.heap.size := Nat.le_trans HT.out.ge (Nat.le_of_lt hlt1)
      have HFR1 : Aside0 (∀ k, w1.heap.size ≤ k → S k) := ⟨fun k hk => HFR.out k (Nat.le_trans hb1.size hk)⟩
      clear hb1 hcell
      go_wp2_with fail
      have hU : Calls Try.prog 11 #[.slice (some ⟨w1.heap.size, 0, none⟩) 1 1] ((w1.alloc (.cells #[.slice A ws.length c] 22)).drew) fun e w' => ∃ v, e = .returned v ∧ Kd.R k31 31 w' (w1.heap.size + 1) (fun _ => True) v (uniL (sortL ws)) ∧ Below (w1.heap.size + 1) ((w1.alloc (.cells #[.slice A ws.length c] 22)).drew) w' := by
        have h := union_calls (some ⟨w1.heap.size, 0, none⟩) 1 [ws] ((w1.alloc (.cells #[.slice A ws.length c] 22)).drew) (C_lit (t := 22) (W1 := (w1.alloc (.cells #[.slice A ws.length c] 22)).drew) (blk_new w1 _) hc (Kd.C_drew (Kd.C_alloc HW.out _))) (by rw [flat_one]; exact hws)
        rw [flat_one] at h
        have hs : ((w1.alloc (.cells #[.slice A ws.length c] 22)).drew).heap.size = w1.heap.size + 1 := by show (w1.heap.push _).size = _; rw [Array.size_push]
        rw [hs] at h
        exact h
      have HU := Aside0.mk hU
      clear hU
      go_region_law (first | (refine Kd.R_append_step k61 (w0 := w5) base (by rfl) (.tmp 23) (.tmp 30) 50 61 (.agg #[.slice none 0 0, .int .i64 0, .bool false]) 40 rfl Try.underlying50 info61 rfl (by decide) (by omega) (.slice A0 l.length c0) l ⟨⟨uniL (sortL ws)⟩, id, false⟩ [.slice A5 (uniL (sortL ws)).length c5, .int .i64 id, .bool false] (fun k => S k ∧ k ≠ g) (fun k => w1.heap.size + 1 ≤ k) (by first | rfl | simp [Act.eval, Act.put]) (by first | rfl | simp [Act.eval, Act.put]) HAT.out.new HAT.out.okp HAT.out.fresh HAT.out.row (Below.refl _ _) HAT.out.base_le (by omega) ?_; intro v7 w7 ho7 hb7 hg7 hat7; clear hat7; have hblk7 := (hg7.block g HAT.out.glt (fun he => (HAT.out.row.1 g he.symm).2 rfl)).trans HAT.out.blk; have hc7 : w7.cell? ⟨g, 0, none⟩ = some (.slice A0 l.length c0) := blk_cell hblk7 0; have hf7 : w7.frozen? ⟨g, 0, none⟩ = false := blk_frozen hblk7 0; obtain ⟨A7, c7, e7⟩ := Kd.R_slice ho7; subst e7; have HO7 := Aside0.mk ho7; have HG7 := Aside0.mk hg7; have HBK7 := Aside0.mk hblk7; clear ho7 hb7 hg7 hblk7) | (go_simp; go_at_call 11; refine HU.out.mono ?_; rintro e w5 ⟨v5, rfl, ho5, hb5⟩; obtain ⟨A5, c5, e5⟩ := Kd.R_slice ho5; subst e5; have HAT := Aside0.mk (AtU.mk' (id := id) hbase1 hlt1 HFR1.out HROW.out HBLK.out ho5 hb5); have hc5 : w5.cell? ⟨g, 0, none⟩ = some (.slice A0 l.length c0) := blk_cell HAT.out.blk 0; have hl5 : g < w5.heap.size := HAT.out.glt; clear ho5 hb5))
      all_goals
        go_wp2
        go_ret
        have hl8 : (l ++ [(⟨⟨uniL (sortL ws)⟩, id, false⟩ : Ask)]).length = l.length + 1 := by simp
        refine ⟨by rw [HA.out]; rfl, ?_, (Kp.of_below HB1.out).trans ((Kp.of_below HAT.out.below).trans ((Kp.of_grown HG7.out (fun k hk => (HAT.out.row.1 k hk).1)).trans (Kp.of_set HT.out.own)))⟩
        unfold askL
        rw [HA.out, if_pos rfl]
        refine ⟨HT.out.own, HT.out.ge, A7, c7, ?_, Kd.R_far HO7.out (fun k hk => hk.2) _⟩
        rw [hl8]
        exact blk_put HBK7.out 0 _ rfl
end Go.Proofs.Ytbpadimcnamdpaa.PK
/- lock: Grant. -/
namespace Go.Proofs.Ytbpadimcnamdpaa.PK
open Go.RowKit Go.Proofs.YtbpadimcnamdpaaW.PrintWords Go.Proofs.YtbpadimcnamdpaaW.PrintLast Go.Proofs.YtbpadimcnamdpaaW.PrintMore
theorem TabAt.now {w : World} {base g : Nat} {S : Nat → Prop} {l : List Ask} (h : TabAt w base S g l) : TabAt w base (fun k => S k ∧ k < w.heap.size) g l := by
  obtain ⟨A, c, h1, h2⟩ := h.row
  exact ⟨⟨h.own, blk_lt h1⟩, h.ge, A, c, h1, Kd.R_mono (Kd.R_bound h2) (fun k hk => ⟨⟨hk.1.1, hk.2.2.1⟩, hk.1.2⟩)⟩
theorem TabAt.mono {w : World} {base g : Nat} {S S' : Nat → Prop} {l : List Ask} (h : TabAt w base S g l) (hs : ∀ k, S k → S' k) : TabAt w base S' g l := by
  obtain ⟨A, c, h1, h2⟩ := h.row
  exact ⟨hs _ h.own, h.ge, A, c, h1, Kd.R_mono h2 (fun k hk => ⟨hs _ hk.1, hk.2⟩)⟩
theorem Kp.cell {S : Nat → Prop} {w w' : World} (h : Kp S w w') {a : Addr} {v : Value} (hc : w.cell? a = some v) (hn : ¬ S a.block) : w'.cell? a = some v := by
  have hlt : a.block < w.heap.size := by
    unfold World.cell? at hc
    by_cases hh : a.block < w.heap.size
    · exact hh
    · rw [Array.getElem?_eq_none (by simpa using hh)] at hc; simp at hc
  rw [World.cell?_of_block (w := w) (h.block a.block hlt hn)]
  exact hc
def heldAt (l : List Ask) (i : Int) : Bool := (rd_T61 l i).f2
def hold (l : List Ask) (i : Nat) : List Ask := l.set i ⟨(rd_T61 l (i : Int)).f0, (rd_T61 l (i : Int)).f1, true⟩
/-- What Grant answers, and the asks behind it. -/
def grantL : List Ask → List Int → Int × List Ask
  | l, [] => (0, l)
  | l, id :: r => if findI l id < 0 ∨ heldAt l (findI l id) = true then (8, l) else if readyT l (findI l id).toNat = false then (18, l) else grantL (hold l (findI l id).toNat) r
theorem findI_lt (l : List Ask) (id : Int) : findI l id < 0 ∨ ∃ i : Nat, findI l id = (i : Int) ∧ i < l.length := by
  unfold findI
  cases h : l.findIdx? (fun x => x.f1 == id) with
  | none => left; decide
  | some i =>
    right
    rw [List.findIdx?_eq_some_iff_getElem] at h
    exact ⟨i, rfl, h.1⟩
theorem hold_length (l : List Ask) (i : Nat) : (hold l i).length = l.length := by simp [hold]
set_option maxHeartbeats 2000000 in
set_option maxRecDepth 100000 in
theorem grant_calls (base g : Nat) (S : Nat → Prop) (l : List Ask) (A : Option Addr) (c : Nat) (ids : List Int) (w : World) (hT : TabAt w base S g l) (hI : Kd.C (Kd.int .i64) w A ids.length ids) (hfar : ∀ ad, A = some ad → ¬ S ad.block) (hsm : l.length ≤ 1073741824) :
    Calls Try.prog 20 #[.pointer (some ⟨g, 0, none⟩), .slice A ids.length c] w fun e w' => e = .returned (.int .i64 (grantL l ids).1) ∧ TabAt w' base (fun k => S k ∨ w.heap.size ≤ k) g (grantL l ids).2 ∧ Kp (fun k => S k ∨ w.heap.size ≤ k) w w' := by
  have HT := Aside0.mk (hT.mono (S' := fun k => S k ∨ w.heap.size ≤ k) (fun _ h => .inl h))
  have HI := Aside0.mk hI
  have HF := Aside0.mk hfar
  have hmax := Kd.C_max hI
  clear hT hI hfar
  obtain ⟨r1, r2, hr⟩ : ∃ r1 r2, (r1, r2) = grantL l ids := ⟨_, _, rfl⟩
  rw [← hr]
  dsimp only
  have HR := Aside0.mk hr
  clear hr
  go_enter Try.func20, Try.ntmps20
  go_wp2
  go_loopg [12] (ids.length + 1) (fun kq v12 w' => ∃ (k : Nat) (l1 : List Ask), v12 = .int .i64 k ∧ Aside0 (k + kq = ids.length + 1) ∧ k ≤ ids.length ∧ l1.length ≤ 1073741824 ∧ Aside0 ((r1, r2) = grantL l1 (ids.drop k)) ∧ Aside0 (TabAt w' base (fun k => S k ∨ w.heap.size ≤ k) g l1) ∧ Aside0 (Kp (fun k => S k ∨ w.heap.size ≤ k) w w'))
  case atStart => exact ⟨0, l, rfl, ⟨by omega⟩, Nat.zero_le _, hsm, HR, HT, ⟨Kp.refl _ _⟩⟩
  case round =>
    clear HT HR hsm
    obtain ⟨k, l1, rfl, HK, hk, hsm, HR, HT, HP⟩ := hrel
    cases gk with
    | zero => exact absurd HK.out (by omega)
    | succ k1 =>
      by_cases hkl : k < ids.length
      · obtain ⟨ad, e0, hx⟩ := Kd.at_int HI.out (k : Int) (by omega) (by omega)
        cases e0
        simp only [Int.toNat_natCast] at hx
        have hxlt : ad.block < w.heap.size := by
          unfold World.cell? at hx
          by_cases hh : (ad.add k).block < w.heap.size
          · rw [add_block] at hh; exact hh
          · rw [Array.getElem?_eq_none (by simpa using hh)] at hx; simp at hx
        have hx2 : wr.cell? (ad.add k) = some (.int .i64 (rd ids (k : Int))) := HP.out.cell hx (by rw [add_block]; rintro (h | h); exact HF.out ad rfl h; omega)
        have hdr : ids.drop k = rd ids (k : Int) :: ids.drop (k + 1) := by
          rw [List.drop_eq_getElem_cons hkl]
          simp [rd, List.getD, hkl]
        rw [hdr] at HR
        clear hx hdr hxlt
        generalize rd ids (k : Int) = id at hx2 HR
        obtain ⟨r, hr⟩ : ∃ r, r = findI l1 id := ⟨_, rfl⟩
        have HRI := Aside0.mk hr
        have hlt := hr ▸ findI_lt l1 id
        clear hr
        obtain ⟨A0, c0, hblk, hrow⟩ := HT.out.row
        have hcell : wr.cell? ⟨g, 0, none⟩ = some (.slice A0 l1.length c0) := (blk_cell hblk 0).trans rfl
        have HBLK := Aside0.mk hblk
        have HROW := Aside0.mk hrow
        have HC := Aside0.mk (Kd.R_reads' hrow).2.2
        clear hblk hrow
        go_wp2_with fail
        refine (find_calls g id r A0 c0 l1 wr hcell HC.out HRI).mono ?_
        rintro e w1 ⟨rfl, hb1⟩
        have hcell1 := (hb1.cell (p := ⟨g, 0, none⟩) HT.out.lt).trans hcell
        replace HBLK := Aside0.mk ((hb1.block g HT.out.lt).trans HBLK.out)
        replace HROW := Aside0.mk (Kd.R_below HROW.out hb1)
        replace HC := Aside0.mk (Kd.C_below HC.out hb1)
        replace HT := Aside0.mk (HT.out.below hb1)
        replace HP := Aside0.mk (HP.out.trans (Kp.of_below hb1))
        clear hb1 hcell hx2
        rcases hlt with hneg | ⟨i, rfl, hil⟩
        · have HA : Aside0 ((r1, r2) = (8, l1)) := ⟨by rw [HR.out]; unfold grantL; rw [if_pos (.inl (by rw [← HRI.out]; exact hneg))]⟩
          go_wp2
          go_ret
          have h1 := congrArg Prod.fst HA.out
          have h2 := congrArg Prod.snd HA.out
          dsimp only at h1 h2
          exact ⟨by rw [h1]; rfl, by rw [h2]; exact HT.out, HP.out⟩
        · obtain ⟨ad2, A2, c2, e2, hz0, hz1, hz2, hl2, hi2⟩ := at_T61 HC.out (i : Int) (by omega) (by omega)
          cases e2
          clear hl2 hi2
          simp only [Int.toNat_natCast] at hz0 hz1 hz2
          obtain ⟨y, hy⟩ : ∃ y, y = rd_T61 l1 (i : Int) := ⟨_, rfl⟩
          rw [← hy] at hz0 hz1 hz2
          have HY := Aside0.mk hy
          clear hy
          cases hyf : y.f2 with
          | true =>
            rw [hyf] at hz2
            have HA : Aside0 ((r1, r2) = (8, l1)) := ⟨by rw [HR.out]; unfold grantL; rw [if_pos (.inr (by rw [← HRI.out]; unfold heldAt; rw [← HY.out]; exact hyf))]⟩
            go_wp2
            go_ret
            have h1 := congrArg Prod.fst HA.out
            have h2 := congrArg Prod.snd HA.out
            dsimp only at h1 h2
            exact ⟨by rw [h1]; rfl, by rw [h2]; exact HT.out, HP.out⟩
          | false =>
            rw [hyf] at hz2
            have HA : Aside0 ((r1, r2) = if readyT l1 i = false then (18, l1) else grantL (hold l1 i) (ids.drop (k + 1))) := ⟨by
              rw [HR.out]
              conv => lhs; unfold grantL
              rw [if_neg (by rw [← HRI.out]; rintro (h | h); omega; unfold heldAt at h; rw [← HY.out, hyf] at h; cases h), ← HRI.out, Int.toNat_natCast]⟩
            clear HR
            go_wp2_with fail
            obtain ⟨b, hb⟩ : ∃ b, b = readyT l1 i := ⟨_, rfl⟩
            have HBR := Aside0.mk hb
            rw [← hb] at HA
            clear hb
            refine (ready_calls g i (some ad2) c0 l1 b w1 hcell1 HC.out hil HBR).mono ?_
            rintro e w2 ⟨rfl, hb2⟩
            have hcell2 := (hb2.cell (p := ⟨g, 0, none⟩) HT.out.lt).trans hcell1
            replace HBLK := Aside0.mk ((hb2.block g HT.out.lt).trans HBLK.out)
            replace HROW := Aside0.mk (Kd.R_below HROW.out hb2)
            replace HT := Aside0.mk (HT.out.below hb2)
            replace HP := Aside0.mk (HP.out.trans (Kp.of_below hb2))
            clear hb2 hcell1 HC hz0 hz1 hz2
            cases b with
            | false =>
              have HA2 : Aside0 ((r1, r2) = (18, l1)) := ⟨by rw [HA.out, if_pos rfl]⟩
              clear HA
              go_wp2
              go_ret
              have h1 := congrArg Prod.fst HA2.out
              have h2 := congrArg Prod.snd HA2.out
              dsimp only at h1 h2
              exact ⟨by rw [h1]; rfl, by rw [h2]; exact HT.out, HP.out⟩
            | true =>
              have HA2 : Aside0 ((r1, r2) = grantL (hold l1 i) (ids.drop (k + 1))) := ⟨by rw [HA.out, if_neg (by decide)]⟩
              clear HA
              obtain ⟨gr, _, ef, _, _, _⟩ := Kd.R_form HROW.out (by omega)
              injection ef with ef1 _ ef3
              injection ef1 with ef1
              subst ef1
              clear ef3
              obtain ⟨cc, hcl, hM, hcc, hfz⟩ := Kd.R_elem HROW.out z61 (i : Int) (by omega) (by omega)
              have hy2 : l1.getD (i : Int).toNat z61 = y := HY.out.symm
              rw [hy2] at hM
              obtain ⟨v0, rfl, hR0⟩ := k61_openM hM
              have HR0 := Aside0.mk hR0
              have hgne : gr ≠ g := (HROW.out.1 gr (by simp [Value.ownBlock])).2
              have HGS := Aside0.mk (HROW.out.1 gr (by simp [Value.ownBlock])).1
              have hadd : (⟨gr, 0, none⟩ : Addr).add (i * 3) = ⟨gr, i * 3, none⟩ := by rw [add_at, Nat.zero_add]
              have HCC := Aside0.mk hcc
              have HHD : Aside0 (hold l1 i = l1.set i ⟨y.f0, y.f1, true⟩) := ⟨by unfold hold; rw [← HY.out]⟩
              clear hM hcl hcc hfz hR0 hy2
              go_wp2_with (first | ((with_reducible refine gate_store (t := 4) (p := 43) rfl ?_); refine Kd.R_store k61 (w0 := w2) base rfl rfl 4 (.tmp 43) (.const (.bool true)) rfl 61 (i : Int) 2 l1 ⟨y.f0, y.f1, true⟩ (.bool true) [.bool true] [v0, .int .i64 y.f1, .bool y.f2] (fun k => (S k ∨ w.heap.size ≤ k) ∧ k ≠ g) (fun k => ((S k ∨ w.heap.size ≤ k) ∧ k ≠ g) ∧ k ≠ gr) ?so rfl rfl rfl info4 (fun q hq => by rcases List.mem_singleton.1 hq with rfl; rfl) HROW.out (by omega) (by omega) rfl HCC.out (Nat.le_refl _) (k61_mkM _ _ _ ⟨y.f0, y.f1, true⟩ HR0.out) (fun _ hk => hk) (Below.refl _ _) ?_; (case so => rfl); intro w3 ho hb hg_; rw [Int.toNat_natCast, ← HHD.out] at ho; have HO3 := Aside0.mk ho; have HG3 := Aside0.mk hg_; have HB3 := Aside0.mk ((hg_.block g HT.out.lt (fun e => hgne (Option.some.inj e).symm)).trans HBLK.out); have hs3 := hg_.size; clear ho hb hg_))
              have HT3 : Aside0 (TabAt w3 base (fun k => S k ∨ w.heap.size ≤ k) g (hold l1 i)) := ⟨⟨HT.out.own, HT.out.ge, some ⟨gr, 0, none⟩, c0, by rw [hold_length]; exact HB3.out, by rw [hold_length]; exact HO3.out⟩⟩
              have HP3 := Aside0.mk (HP.out.trans (Kp.of_grown HG3.out (fun k hk => by rw [← Option.some.inj hk]; exact HGS.out)))
              go_roundg k1
              case measure => have := HK.out; omega
              case rel => exact ⟨k + 1, hold l1 i, by go_num, ⟨by have := HK.out; omega⟩, by omega, by rw [hold_length]; exact hsm, HA2, HT3, HP3⟩
      · have HA : Aside0 ((r1, r2) = (0, l1)) := ⟨by rw [HR.out, List.drop_eq_nil_of_le (by omega)]; rfl⟩
        go_wp2
        go_ret
        have h1 := congrArg Prod.fst HA.out
        have h2 := congrArg Prod.snd HA.out
        dsimp only at h1 h2
        exact ⟨by rw [h1]; rfl, by rw [h2]; exact HT.out, HP.out⟩
end Go.Proofs.Ytbpadimcnamdpaa.PK
/- lock: the document's example. -/
namespace Go.Proofs.Ytbpadimcnamdpaa.PK
open Go.RowKit Go.Proofs.YtbpadimcnamdpaaW.PrintWords Go.Proofs.YtbpadimcnamdpaaW.PrintLast Go.Proofs.YtbpadimcnamdpaaW.PrintMore
def nmA : ByteArray := ⟨#[97]⟩
def wA (b : Bool) : W := ⟨nmA, b⟩
def aA (id : Int) (b : Bool) : Ask := ⟨⟨[wA b]⟩, id, false⟩
def L1 : List Ask := [aA 1 false]
def L2 : List Ask := [aA 1 false, aA 2 true]
def L3 : List Ask := [aA 1 false, aA 2 true, aA 3 false]
theorem sortL_one (x : W) : sortL [x] = [x] := by
  unfold sortL Sort.insertionSort
  rw [Sort.insOuter, if_neg (by simp)]
theorem uniL_one (x : W) : uniL [x] = [x] := by simp [uniL, uniStep]
theorem bytesLess_self (l : List UInt8) : Op.bytesLess l l = false := by
  induction l with
  | nil => rfl
  | cons x r ih => simp [Op.bytesLess, ih]
theorem cmpS_self (a : ByteArray) : cmpS a a = 0 := by
  unfold cmpS
  rw [bytesLess_self, if_neg (by decide), if_pos rfl]
theorem clash_A (b c : Bool) : clashL [wA b] [wA c] = (b || c) := by
  rw [clashL_cons, show cmpS (wA b).f0 (wA c).f0 = 0 from cmpS_self nmA, if_neg (by decide), if_neg (by decide)]
  have h : clash1 (wA b) (wA c) = (b || c) := by
    unfold clash1
    rw [show decide ((wA b).f0.toList = (wA c).f0.toList) = true from decide_eq_true rfl]
    rfl
  rw [h, clashL_nil]
  cases b <;> cases c <;> rfl
theorem ask1 : askL [] 1 [wA false] = L1 ∧ askCode [] 1 = 0 := by
  have h : askCode [] 1 = 0 := rfl
  refine ⟨?_, h⟩
  unfold askL
  rw [h, if_pos rfl, sortL_one, uniL_one]
  rfl
theorem ask2 : askL L1 2 [wA true] = L2 ∧ askCode L1 2 = 0 := by
  have h : askCode L1 2 = 0 := rfl
  refine ⟨?_, h⟩
  unfold askL
  rw [h, if_pos rfl, sortL_one, uniL_one]
  rfl
theorem ask3 : askL L2 3 [wA false] = L3 ∧ askCode L2 3 = 0 := by
  have h : askCode L2 3 = 0 := rfl
  refine ⟨?_, h⟩
  unfold askL
  rw [h, if_pos rfl, sortL_one, uniL_one]
  rfl
theorem blocks_A (i k : Nat) (hi : i < 3) (hk : k < 3) : blocks L3 i k = (decide (k ≠ i) && decide (k < i) && ((i == 1) || (k == 1))) := by
  have key : ∀ b c : Bool, clashL [wA b] [wA c] = (b || c) := clash_A
  match i, k, hi, hk with
  | 0, 0, _, _ => rfl
  | 0, 1, _, _ => rfl
  | 0, 2, _, _ => rfl
  | 1, 0, _, _ => exact (congrArg _ (key true false)).trans rfl
  | 1, 1, _, _ => rfl
  | 1, 2, _, _ => rfl
  | 2, 0, _, _ => exact (congrArg _ (key false false)).trans rfl
  | 2, 1, _, _ => exact (congrArg _ (key false true)).trans rfl
  | 2, 2, _, _ => rfl
theorem ready_0 : readyT L3 0 = true := by
  rw [readyT_all L3 0 (fun k hk => by rw [blocks_A 0 k (by decide) hk, decide_eq_false (by omega : ¬ k < 0)]; simp)]
  rfl
theorem ready_1 : readyT L3 1 = false := readyT_no L3 1 0 (by decide) (by rw [blocks_A 1 0 (by decide) (by decide)]; rfl)
theorem ready_2 : readyT L3 2 = false := readyT_no L3 2 1 (by decide) (by rw [blocks_A 2 1 (by decide) (by decide)]; rfl)
theorem ids_ready3 : idsK L3 (readyT L3) L3.length = [1] := by
  show idsK L3 (readyT L3) 3 = [1]
  rw [idsK_no _ _ 2 ready_2, idsK_no _ _ 1 ready_1, idsK_yes _ _ 0 ready_0]
  rfl
theorem ids_wait3 : (idsK L3 (fun i => !held L3 i) L3.length).length = 3 := rfl
theorem grant_3 : grantL L3 [3] = (18, L3) := by
  unfold grantL
  rw [show findI L3 3 = 2 from rfl, if_neg (by decide), show (2 : Int).toNat = 2 from rfl, ready_2, if_pos rfl]
theorem grant_1 : (grantL L3 [1]).1 = 0 := by
  unfold grantL
  rw [show findI L3 1 = 0 from rfl, if_neg (by decide), show (0 : Int).toNat = 0 from rfl, ready_0, if_neg (by decide)]
  rfl
theorem C_want {W1 : World} {b t : Nat} (x : W) (hb : W1.heap[b]? = some (.cells #[.string x.f0, .bool x.f1] t (0, 0))) : Kd.C k31 W1 (some ⟨b, 0, none⟩) [x].length [x] := by
  refine ⟨rfl, by simp, fun _ => ⟨⟨b, 0, none⟩, rfl, fun j p hj => ?_⟩⟩
  have hj0 : j = 0 := by
    have := (List.getElem?_eq_some_iff.1 hj).1
    simpa using this
  subst hj0
  obtain rfl : x = p := by simpa using hj
  refine ⟨[.string x.f0, .bool x.f1], rfl, k31_mk W1 x, fun i u hu => ?_⟩
  have hi := (List.getElem?_eq_some_iff.1 hu).1
  have := blk_cell hb i
  show W1.cell? ((⟨b, 0, none⟩ : Addr).add (0 * 2 + i)) = _
  rw [add_plain, Nat.zero_mul, Nat.zero_add, this]
  simpa using hu
theorem C_int {W1 : World} {b t : Nat} (n : Int) (hb : W1.heap[b]? = some (.cells #[.int .i64 n] t (0, 0))) : Kd.C (Kd.int .i64) W1 (some ⟨b, 0, none⟩) [n].length [n] := by
  refine ⟨rfl, by simp, fun _ => ⟨⟨b, 0, none⟩, rfl, fun j p hj => ?_⟩⟩
  have hj0 : j = 0 := by
    have := (List.getElem?_eq_some_iff.1 hj).1
    simpa using this
  subst hj0
  obtain rfl : n = p := by simpa using hj
  refine ⟨[.int .i64 n], rfl, rfl, fun i u hu => ?_⟩
  have := blk_cell hb i
  show W1.cell? ((⟨b, 0, none⟩ : Addr).add (0 * 1 + i)) = _
  rw [add_plain, Nat.zero_mul, Nat.zero_add, this]
  simpa using hu
theorem below_kp {S : Nat → Prop} {w w1 w2 : World} (h : Below w.heap.size w w1) (k : Kp S w1 w2) (hS : ∀ k, S k → w.heap.size ≤ k) : Below w.heap.size w w2 :=
  h.trans ⟨k.os, k.tape, k.output, k.size, fun i hi => k.block i (Nat.lt_of_lt_of_le hi h.size) (fun hs => by have := hS i hs; omega)⟩
set_option maxHeartbeats 2000000 in
set_option maxRecDepth 100000 in
theorem awake_calls (w : World) : Calls Try.prog 7 #[] w fun e w' => e = .returned (.bool true) ∧ Below w.heap.size w w' := by
  go_enter Try.func7, Try.ntmps7
  go_wp2_with fail
  refine (New_calls w).mono ?_
  rintro e w1 ⟨rfl, hT, hb⟩
  have HT := Aside0.mk hT
  have HB := Aside0.mk hb
  clear hT hb
  go_wp2_with fail
  refine (ask_calls w.heap.size w.heap.size (fun k => w.heap.size ≤ k) [] 1 (some ⟨w1.heap.size, 0, none⟩) 1 [wA false] _ (HT.out.below (below_alloc (Below.refl _ _) _)) (C_want (wA false) (blk_new w1 _)) (Nat.le_refl _) (by simp) (by simp) (fun k hk => Nat.le_trans HB.out.size (Nat.le_trans (Nat.le_of_lt (alloc_lt' w1 _)) hk))).mono ?_
  rintro e w2 ⟨rfl, hT, hK⟩
  rw [ask1.1] at hT
  rw [ask1.2]
  replace HB := Aside0.mk (below_kp (below_alloc HB.out _) hK (fun _ h => h))
  replace HT := Aside0.mk hT
  clear hT hK
  go_wp2_with fail
  refine (ask_calls w.heap.size w.heap.size (fun k => w.heap.size ≤ k) L1 2 (some ⟨w2.heap.size, 0, none⟩) 1 [wA true] _ (HT.out.below (below_alloc (Below.refl _ _) _)) (C_want (wA true) (blk_new w2 _)) (Nat.le_refl _) (by simp) (by decide) (fun k hk => Nat.le_trans HB.out.size (Nat.le_trans (Nat.le_of_lt (alloc_lt' w2 _)) hk))).mono ?_
  rintro e w3 ⟨rfl, hT, hK⟩
  rw [ask2.1] at hT
  rw [ask2.2]
  replace HB := Aside0.mk (below_kp (below_alloc HB.out _) hK (fun _ h => h))
  replace HT := Aside0.mk hT
  clear hT hK
  go_wp2_with fail
  refine (ask_calls w.heap.size w.heap.size (fun k => w.heap.size ≤ k) L2 3 (some ⟨w3.heap.size, 0, none⟩) 1 [wA false] _ (HT.out.below (below_alloc (Below.refl _ _) _)) (C_want (wA false) (blk_new w3 _)) (Nat.le_refl _) (by simp) (by decide) (fun k hk => Nat.le_trans HB.out.size (Nat.le_trans (Nat.le_of_lt (alloc_lt' w3 _)) hk))).mono ?_
  rintro e w4 ⟨rfl, hT, hK⟩
  rw [ask3.1] at hT
  rw [ask3.2]
  replace HB := Aside0.mk (below_kp (below_alloc HB.out _) hK (fun _ h => h))
  replace HT := Aside0.mk hT
  clear hT hK
  go_wp2_with fail
  obtain ⟨A4, c4, hcell4, hC4⟩ := HT.out.cell
  refine (Ready_calls w.heap.size A4 c4 L3 w4 hcell4 hC4 (by decide)).mono ?_
  rintro e w5 ⟨v5, rfl, ho5, hb5⟩
  rw [ids_ready3] at ho5
  obtain ⟨A5, c5, rfl⟩ := Kd.R_slice ho5
  obtain ⟨ad5, e5, hat5⟩ := Kd.at_int (Kd.R_reads' ho5).2.2 0 (by omega) (by simp)
  cases e5
  clear hcell4 hC4
  replace HB := Aside0.mk (below_step HB.out hb5)
  replace HT := Aside0.mk (HT.out.below hb5)
  have HO5 := Aside0.mk ho5
  clear ho5 hb5
  have hat : w5.cell? ad5 = some (.int .i64 1) := by simpa [Addr.add, rd] using hat5
  clear hat5
  go_wp2_with fail
  obtain ⟨A6, c6, hcell6, hC6⟩ := HT.out.cell
  refine (Waiting_calls w.heap.size A6 c6 L3 w5 hcell6 hC6 (by decide)).mono ?_
  rintro e w6 ⟨v6, rfl, ho6, hb6⟩
  obtain ⟨A7, c7, rfl⟩ := Kd.R_slice ho6
  rw [ids_wait3]
  clear hcell6 hC6 ho6 hat HO5
  replace HB := Aside0.mk (below_step HB.out hb6)
  replace HT := Aside0.mk (HT.out.below hb6)
  clear hb6
  go_wp2_with fail
  refine (grant_calls w.heap.size w.heap.size (fun k => w.heap.size ≤ k ∧ k < w6.heap.size) L3 (some ⟨w6.heap.size, 0, none⟩) 1 [3] _ (HT.out.now.below (below_alloc (Below.refl _ _) _)) (C_int 3 (blk_new w6 _)) (fun ad he hs => by injection he with he; subst he; exact absurd hs.2 (Nat.lt_irrefl _)) (by decide)).mono ?_
  rintro e w7 ⟨rfl, hT, hK⟩
  rw [grant_3]
  rw [grant_3] at hT
  dsimp only at hT ⊢
  replace HB := Aside0.mk (below_kp (below_alloc HB.out _) hK (fun k h => by rcases h with h | h; exact h.1; exact Nat.le_trans HB.out.size (Nat.le_trans (Nat.le_of_lt (alloc_lt' w6 _)) h)))
  replace HT := Aside0.mk (hT.mono (S' := fun k => w.heap.size ≤ k) (fun k h => by rcases h with h | h; exact h.1; exact Nat.le_trans (Nat.le_of_lt (HT.out.lt)) (Nat.le_trans (Nat.le_of_lt (alloc_lt' w6 _)) h)))
  clear hT hK
  go_wp2_with fail
  refine (grant_calls w.heap.size w.heap.size (fun k => w.heap.size ≤ k ∧ k < w7.heap.size) L3 (some ⟨w7.heap.size, 0, none⟩) 1 [1] _ (HT.out.now.below (below_alloc (Below.refl _ _) _)) (C_int 1 (blk_new w7 _)) (fun ad he hs => by injection he with he; subst he; exact absurd hs.2 (Nat.lt_irrefl _)) (by decide)).mono ?_
  rintro e w8 ⟨rfl, hT, hK⟩
  rw [grant_1]
  replace HB := Aside0.mk (below_kp (below_alloc HB.out _) hK (fun k h => by rcases h with h | h; exact h.1; exact Nat.le_trans HB.out.size (Nat.le_trans (Nat.le_of_lt (alloc_lt' w7 _)) h)))
  clear hT hK HT
  go_wp2_with fail
  go_ret
  exact ⟨rfl, HB.out⟩
end Go.Proofs.Ytbpadimcnamdpaa.PK
/- lock: names rise; what wants, united, are. Plain words. -/
namespace Go.Proofs.Ytbpadimcnamdpaa.PK
open Go.RowKit Go.Proofs.YtbpadimcnamdpaaW.PrintWords Go.Proofs.YtbpadimcnamdpaaW.PrintLast Go.Proofs.YtbpadimcnamdpaaW.PrintMore
theorem u8_tri (a b : UInt8) (h1 : ¬ a < b) (h2 : ¬ b < a) : a = b := by
  apply UInt8.toNat.inj
  rw [UInt8.lt_iff_toNat_lt] at h1 h2
  omega
theorem bl_tri : ∀ a b : List UInt8, Op.bytesLess a b = false → Op.bytesLess b a = false → a = b
  | [], [], _, _ => rfl
  | [], y :: ys, h, _ => by simp [Op.bytesLess] at h
  | x :: xs, [], _, h => by simp [Op.bytesLess] at h
  | x :: xs, y :: ys, h1, h2 => by
    simp only [Op.bytesLess, Bool.or_eq_false_iff, decide_eq_false_iff_not, Bool.and_eq_false_imp, beq_iff_eq] at h1 h2
    obtain rfl := u8_tri x y h1.1 h2.1
    rw [bl_tri xs ys (h1.2 rfl) (h2.2 rfl)]
theorem bl_trans : ∀ a b c : List UInt8, Op.bytesLess a b = true → Op.bytesLess b c = true → Op.bytesLess a c = true
  | _, _, [], _, h => by simp [Op.bytesLess] at h
  | [], _, z :: zs, _, _ => by simp [Op.bytesLess]
  | x :: xs, [], z :: zs, h, _ => by simp [Op.bytesLess] at h
  | x :: xs, y :: ys, z :: zs, h1, h2 => by
    simp only [Op.bytesLess, Bool.or_eq_true, decide_eq_true_eq, Bool.and_eq_true, beq_iff_eq] at h1 h2 ⊢
    rcases h1 with h1 | ⟨rfl, h1⟩
    · rcases h2 with h2 | ⟨rfl, h2⟩
      · left; rw [UInt8.lt_iff_toNat_lt] at h1 h2 ⊢; omega
      · left; exact h1
    · rcases h2 with h2 | ⟨rfl, h2⟩
      · left; exact h2
      · right; exact ⟨rfl, bl_trans xs ys zs h1 h2⟩
def nl (x y : W) : Bool := Op.bytesLess x.f0.toList y.f0.toList
theorem nl_irrefl (x : W) : nl x x = false := bytesLess_self _
theorem nl_trans {x y z : W} (h : nl x y = true) (k : nl y z = true) : nl x z = true := bl_trans _ _ _ h k
theorem nl_tri {x y : W} (h : nl x y = false) (k : nl y x = false) : x.f0 = y.f0 := by
  have := bl_tri _ _ h k
  rw [ByteArray.toList_eq, ByteArray.toList_eq] at this
  apply ByteArray.ext
  exact Array.toList_inj.1 this
theorem nl_asymm {x y : W} (h : nl x y = true) : nl y x = false := by
  cases hh : nl y x with
  | false => rfl
  | true => exact absurd (nl_trans h hh) (by rw [nl_irrefl]; decide)
theorem nl_congr {x y z : W} (h : x.f0 = y.f0) : nl x z = nl y z ∧ nl z x = nl z y := by unfold nl; rw [h]; exact ⟨rfl, rfl⟩
theorem lt_nl (x y : W) : ltOf cmpW x y = nl x y := by
  unfold ltOf cmpW cmpS nl
  cases h : Op.bytesLess x.f0.toList y.f0.toList with
  | true => rfl
  | false =>
    simp only [Bool.false_eq_true, if_false]
    split <;> rfl
theorem swo : Sort.SWO (ltOf cmpW) := by
  refine ⟨fun x => by rw [lt_nl]; exact nl_irrefl x, fun x y z h k => by rw [lt_nl] at *; exact nl_trans h k, fun x y z h k => ?_⟩
  rw [lt_nl] at *
  cases hh : nl x z with
  | false => rfl
  | true =>
    cases hxy : nl y x with
    | false =>
      have := nl_tri h hxy
      rw [(nl_congr this).1] at hh
      rw [hh] at k; cases k
    | true => exact absurd (nl_trans hxy hh) (by rw [k]; decide)
/-- Sorted: the same wants, none less than an earlier one. -/
theorem sortL_perm (xs : List W) : (sortL xs).Perm xs := by
  have h := (Sort.insertionSort_holds (lt := ltOf cmpW) swo xs.toArray 0 xs.length (Nat.zero_le _) (by simp)).1
  have hs : (Sort.insertionSort (ltOf cmpW) xs.toArray 0 xs.length).size = xs.length := by rw [size_ins]; simp
  have h2 := h.2.2
  unfold sortL
  have e1 : (Sort.insertionSort (ltOf cmpW) xs.toArray 0 xs.length).extract 0 xs.length = Sort.insertionSort (ltOf cmpW) xs.toArray 0 xs.length := by
    apply Array.extract_eq_self_of_le; omega
  have e2 : xs.toArray.extract 0 xs.length = xs.toArray := by
    apply Array.extract_eq_self_of_le; simp
  rw [e1, e2] at h2
  exact h2
theorem sortL_asc (xs : List W) : (sortL xs).Pairwise fun x y => nl y x = false := by
  have h := (Sort.insertionSort_holds (lt := ltOf cmpW) swo xs.toArray 0 xs.length (Nat.zero_le _) (by simp)).2
  have hs : (Sort.insertionSort (ltOf cmpW) xs.toArray 0 xs.length).size = xs.length := by rw [size_ins]; simp
  unfold sortL
  generalize Sort.insertionSort (ltOf cmpW) xs.toArray 0 xs.length = d at h hs
  rw [List.pairwise_iff_getElem]
  intro i j hi hj hij
  rw [Array.length_toList] at hi hj
  have := h i j (Nat.zero_le _) hij (by omega)
  rw [lt_nl, getElem!_pos d j hj, getElem!_pos d i hi] at this
  exact this
/-- What wants, united, are: rising by names, each name once; to be written, where one of them is. -/
structure US (out xs : List W) : Prop where
  asc : out.Pairwise fun x y => nl x y = true
  has : ∀ n, (∃ x ∈ out, x.f0 = n) ↔ ∃ x ∈ xs, x.f0 = n
  wr : ∀ x ∈ out, (x.f1 = true ↔ ∃ y ∈ xs, y.f0 = x.f0 ∧ y.f1 = true)
theorem asc_ext : ∀ o1 o2 : List W, o1.Pairwise (fun x y => nl x y = true) → o2.Pairwise (fun x y => nl x y = true) → (∀ x, x ∈ o1 ↔ x ∈ o2) → o1 = o2
  | [], o2, _, _, h => by
    cases o2 with
    | nil => rfl
    | cons y r => exact absurd ((h y).2 List.mem_cons_self) (by simp)
  | x :: r1, [], _, _, h => absurd ((h x).1 List.mem_cons_self) (by simp)
  | x :: r1, y :: r2, h1, h2, h => by
    rw [List.pairwise_cons] at h1 h2
    have exy : x = y := by
      rcases List.mem_cons.1 ((h x).1 List.mem_cons_self) with e | hx
      · exact e
      · rcases List.mem_cons.1 ((h y).2 List.mem_cons_self) with e | hy
        · exact e.symm
        · exact absurd (nl_trans (h1.1 y hy) (h2.1 x hx)) (by rw [nl_irrefl]; decide)
    subst exy
    rw [asc_ext r1 r2 h1.2 h2.2 (fun z => ⟨fun hz => ?_, fun hz => ?_⟩)]
    · rcases List.mem_cons.1 ((h z).1 (List.mem_cons_of_mem _ hz)) with e | hz2
      · subst e; exact absurd (h1.1 z hz) (by rw [nl_irrefl]; decide)
      · exact hz2
    · rcases List.mem_cons.1 ((h z).2 (List.mem_cons_of_mem _ hz)) with e | hz2
      · subst e; exact absurd (h2.1 z hz) (by rw [nl_irrefl]; decide)
      · exact hz2
theorem US.sub {o1 o2 xs : List W} (h1 : US o1 xs) (h2 : US o2 xs) (x : W) (hx : x ∈ o1) : x ∈ o2 := by
  obtain ⟨y, hy, hn⟩ := (h2.has x.f0).2 ((h1.has x.f0).1 ⟨x, hx, rfl⟩)
  have e1 := h1.wr x hx
  have e2 := h2.wr y hy
  rw [hn] at e2
  have hf : x.f1 = y.f1 := by
    have : x.f1 = true ↔ y.f1 = true := e1.trans e2.symm
    cases hx1 : x.f1 <;> cases hy1 : y.f1 <;> simp_all
  have : x = y := by
    cases x; cases y; simp_all
  rw [this]; exact hy
theorem US.uniq {o1 o2 xs : List W} (h1 : US o1 xs) (h2 : US o2 xs) : o1 = o2 :=
  asc_ext o1 o2 h1.asc h2.asc (fun x => ⟨h1.sub h2 x, h2.sub h1 x⟩)
theorem US.perm {o xs ys : List W} (h : US o xs) (hp : ∀ x, x ∈ xs ↔ x ∈ ys) : US o ys :=
  ⟨h.asc, fun n => (h.has n).trans ⟨fun ⟨x, hx, e⟩ => ⟨x, (hp x).1 hx, e⟩, fun ⟨x, hx, e⟩ => ⟨x, (hp x).2 hx, e⟩⟩,
    fun x hx => (h.wr x hx).trans ⟨fun ⟨y, hy, e⟩ => ⟨y, (hp y).1 hy, e⟩, fun ⟨y, hy, e⟩ => ⟨y, (hp y).2 hy, e⟩⟩⟩
theorem US.nil : US [] [] := ⟨List.Pairwise.nil, fun n => by simp, fun x hx => by simp at hx⟩
/-- One more want whose name there is already: at a place. -/
theorem US.merge {l r xs : List W} {m x : W} (h : US (l ++ m :: r) xs) (hn : m.f0 = x.f0) : US (l ++ ⟨m.f0, m.f1 || x.f1⟩ :: r) (xs ++ [x]) := by
  have hm : ∀ z : W, nl ⟨m.f0, m.f1 || x.f1⟩ z = nl m z ∧ nl z ⟨m.f0, m.f1 || x.f1⟩ = nl z m := fun z => nl_congr rfl
  have ha := h.asc
  rw [List.pairwise_append, List.pairwise_cons] at ha
  refine ⟨?_, fun n => ?_, fun z hz => ?_⟩
  · rw [List.pairwise_append, List.pairwise_cons]
    refine ⟨ha.1, ⟨fun z hz => by rw [(hm z).1]; exact ha.2.1.1 z hz, ha.2.1.2⟩, fun a hla b hb => ?_⟩
    rcases List.mem_cons.1 hb with e | hb
    · rw [e, (hm a).2]; exact ha.2.2 a hla m List.mem_cons_self
    · exact ha.2.2 a hla b (List.mem_cons_of_mem _ hb)
  · constructor
    · rintro ⟨z, hz, e⟩
      have : ∃ z ∈ l ++ m :: r, z.f0 = n := by
        rcases List.mem_append.1 hz with hz | hz
        · exact ⟨z, List.mem_append_left _ hz, e⟩
        · rcases List.mem_cons.1 hz with e2 | hz
          · exact ⟨m, List.mem_append_right _ List.mem_cons_self, by rw [← e, e2]⟩
          · exact ⟨z, List.mem_append_right _ (List.mem_cons_of_mem _ hz), e⟩
      obtain ⟨y, hy, e2⟩ := (h.has n).1 this
      exact ⟨y, List.mem_append_left _ hy, e2⟩
    · rintro ⟨y, hy, e⟩
      have : ∃ z ∈ l ++ m :: r, z.f0 = n := by
        rcases List.mem_append.1 hy with hy | hy
        · exact (h.has n).2 ⟨y, hy, e⟩
        · rw [List.mem_singleton.1 hy] at e
          exact ⟨m, List.mem_append_right _ List.mem_cons_self, by rw [hn, e]⟩
      obtain ⟨z, hz, e2⟩ := this
      rcases List.mem_append.1 hz with hz | hz
      · exact ⟨z, List.mem_append_left _ hz, e2⟩
      · rcases List.mem_cons.1 hz with e3 | hz
        · exact ⟨_, List.mem_append_right _ List.mem_cons_self, by rw [← e2, e3]⟩
        · exact ⟨z, List.mem_append_right _ (List.mem_cons_of_mem _ hz), e2⟩
  · have other : ∀ z ∈ l ++ m :: r, z.f0 ≠ x.f0 → (z.f1 = true ↔ ∃ y ∈ xs ++ [x], y.f0 = z.f0 ∧ y.f1 = true) := fun z hz hne => by
      rw [h.wr z hz]
      constructor
      · rintro ⟨y, hy, e⟩; exact ⟨y, List.mem_append_left _ hy, e⟩
      · rintro ⟨y, hy, e⟩
        rcases List.mem_append.1 hy with hy | hy
        · exact ⟨y, hy, e⟩
        · rw [List.mem_singleton.1 hy] at e; exact absurd e.1.symm hne
    have hne : ∀ z, nl z m = true ∨ nl m z = true → z.f0 ≠ x.f0 := fun z hz e => by
      rw [← hn] at e
      rcases hz with hz | hz
      · rw [(nl_congr e).1, nl_irrefl] at hz; cases hz
      · rw [(nl_congr e).2, nl_irrefl] at hz; cases hz
    rcases List.mem_append.1 hz with hz | hz
    · exact other z (List.mem_append_left _ hz) (hne z (.inl (ha.2.2 z hz m List.mem_cons_self)))
    · rcases List.mem_cons.1 hz with e | hz
      · subst e
        show ((m.f1 || x.f1) = true) ↔ _
        rw [Bool.or_eq_true, h.wr m (List.mem_append_right _ List.mem_cons_self)]
        constructor
        · rintro (⟨y, hy, e⟩ | hx)
          · exact ⟨y, List.mem_append_left _ hy, e⟩
          · exact ⟨x, List.mem_append_right _ (List.mem_singleton.2 rfl), hn.symm, hx⟩
        · rintro ⟨y, hy, e⟩
          rcases List.mem_append.1 hy with hy | hy
          · exact .inl ⟨y, hy, e⟩
          · rw [List.mem_singleton.1 hy] at e; exact .inr e.2
      · exact other z (List.mem_append_right _ (List.mem_cons_of_mem _ hz)) (hne z (.inr (ha.2.1.1 z hz)))
/-- One more want, whose name there is not: between the lesser ones and the greater ones. -/
theorem US.insert {l r xs : List W} {x : W} (h : US (l ++ r) xs) (hl : ∀ z ∈ l, nl z x = true) (hr : ∀ z ∈ r, nl x z = true) : US (l ++ x :: r) (xs ++ [x]) := by
  have ha := h.asc
  rw [List.pairwise_append] at ha
  have hne : ∀ z ∈ l ++ r, z.f0 ≠ x.f0 := fun z hz e => by
    rcases List.mem_append.1 hz with hz | hz
    · have := hl z hz; rw [(nl_congr e).1, nl_irrefl] at this; cases this
    · have := hr z hz; rw [(nl_congr e).2, nl_irrefl] at this; cases this
  have hmem : ∀ z, z ∈ l ++ x :: r ↔ z = x ∨ z ∈ l ++ r := fun z => by
    simp only [List.mem_append, List.mem_cons]
    constructor
    · rintro (h | h | h)
      · exact .inr (.inl h)
      · exact .inl h
      · exact .inr (.inr h)
    · rintro (h | h | h)
      · exact .inr (.inl h)
      · exact .inl h
      · exact .inr (.inr h)
  refine ⟨?_, fun n => ?_, fun z hz => ?_⟩
  · rw [List.pairwise_append, List.pairwise_cons]
    refine ⟨ha.1, ⟨hr, ha.2.1⟩, fun a hla b hb => ?_⟩
    rcases List.mem_cons.1 hb with e | hb
    · rw [e]; exact hl a hla
    · exact ha.2.2 a hla b hb
  · constructor
    · rintro ⟨z, hz, e⟩
      rcases (hmem z).1 hz with rfl | hz
      · exact ⟨z, List.mem_append_right _ (List.mem_singleton.2 rfl), e⟩
      · obtain ⟨y, hy, e2⟩ := (h.has n).1 ⟨z, hz, e⟩
        exact ⟨y, List.mem_append_left _ hy, e2⟩
    · rintro ⟨y, hy, e⟩
      rcases List.mem_append.1 hy with hy | hy
      · obtain ⟨z, hz, e2⟩ := (h.has n).2 ⟨y, hy, e⟩
        exact ⟨z, (hmem z).2 (.inr hz), e2⟩
      · rw [List.mem_singleton.1 hy] at e
        exact ⟨x, (hmem x).2 (.inl rfl), e⟩
  · rcases (hmem z).1 hz with rfl | hz
    · constructor
      · intro hx; exact ⟨z, List.mem_append_right _ (List.mem_singleton.2 rfl), rfl, hx⟩
      · rintro ⟨y, hy, e⟩
        rcases List.mem_append.1 hy with hy | hy
        · obtain ⟨q, hq, e2⟩ := (h.has z.f0).2 ⟨y, hy, e.1⟩
          exact absurd e2 (hne q hq)
        · rw [List.mem_singleton.1 hy] at e; exact e.2
    · rw [h.wr z hz]
      constructor
      · rintro ⟨y, hy, e⟩; exact ⟨y, List.mem_append_left _ hy, e⟩
      · rintro ⟨y, hy, e⟩
        rcases List.mem_append.1 hy with hy | hy
        · exact ⟨y, hy, e⟩
        · rw [List.mem_singleton.1 hy] at e; exact absurd e.1.symm (hne z hz)
theorem concat_of (l : List W) (h : 0 < l.length) : ∃ r m, l = r ++ [m] := by
  rcases List.eq_nil_or_concat l with e | ⟨r, m, e⟩
  · rw [e] at h; simp at h
  · exact ⟨r, m, by rw [e, List.concat_eq_append]⟩
theorem rd31_last (r : List W) (m : W) : rd_T31 (r ++ [m]) (((r ++ [m]).length - 1 : Nat) : Int) = m := by
  rw [rd31_at _ _ (by simp)]
  simp
theorem uni_go : ∀ (rest pre out : List W), US out pre → (pre ++ rest).Pairwise (fun x y => nl y x = false) → US (rest.foldl uniStep out) (pre ++ rest)
  | [], pre, out, h, _ => by simpa using h
  | x :: rest, pre, out, h, hp => by
    have hstep : US (uniStep out x) (pre ++ [x]) := by
      unfold uniStep
      have hle : ∀ z ∈ out, nl x z = false := fun z hz => by
        obtain ⟨y, hy, e⟩ := (h.has z.f0).1 ⟨z, hz, rfl⟩
        rw [List.pairwise_append] at hp
        have := hp.2.2 y hy x List.mem_cons_self
        rw [(nl_congr e).2] at this
        exact this
      split
      · rename_i hc
        obtain ⟨r, m, rfl⟩ := concat_of out hc.1
        rw [rd31_last] at hc ⊢
        have e : m.f0 = x.f0 := by
          have := hc.2
          rw [ByteArray.toList_eq, ByteArray.toList_eq] at this
          exact ByteArray.ext (Array.toList_inj.1 this)
        have hs : (r ++ [m]).set ((r ++ [m]).length - 1) ⟨m.f0, m.f1 || x.f1⟩ = r ++ [⟨m.f0, m.f1 || x.f1⟩] := by simp
        rw [hs]
        exact US.merge (r := []) h e
      · rename_i hc
        have hl : ∀ z ∈ out, nl z x = true := fun z hz => by
          cases hzx : nl z x with
          | true => rfl
          | false =>
            exfalso
            have e := nl_tri hzx (hle z hz)
            have h0 : 0 < out.length := List.length_pos_of_mem hz
            obtain ⟨r, m, rfl⟩ := concat_of out h0
            rw [rd31_last] at hc
            rcases List.mem_append.1 hz with hz | hz
            · have ha := h.asc
              rw [List.pairwise_append] at ha
              have h1 := ha.2.2 z hz m (List.mem_singleton.2 rfl)
              rw [(nl_congr e).1] at h1
              have h2 := hle m (List.mem_append_right _ (List.mem_singleton.2 rfl))
              rw [h1] at h2; cases h2
            · rw [List.mem_singleton.1 hz] at e
              exact hc ⟨h0, by rw [e]⟩
        have := US.insert (l := out) (r := []) (xs := pre) (x := x) (by simpa using h) hl (fun z hz => by simp at hz)
        exact this
    rw [List.foldl_cons]
    have := uni_go rest (pre ++ [x]) (uniStep out x) hstep (by simpa using hp)
    simpa using this
theorem uni_US (xs : List W) : US (uniL (sortL xs)) xs := by
  have h := uni_go (sortL xs) [] [] US.nil (by simpa using sortL_asc xs)
  rw [List.nil_append] at h
  exact h.perm (fun x => (sortL_perm xs).mem_iff)
theorem w64n (n : Nat) (h : n < 9223372036854775808) : wrap64 (n : Int) = (n : Int) := by unfold wrap64; omega
theorem w64i (n : Int) (h0 : -9223372036854775808 ≤ n) (h : n < 9223372036854775808) : wrap64 n = n := by unfold wrap64; omega
theorem ev_step {α : Type} {g h : Nat → Option α} {r : α} (hg : ∀ k, g (k + 1) = h k) (hh : Ev h r) : Ev g r := by
  obtain ⟨K, hK⟩ := hh
  exact ⟨K + 1, fun k hk => by obtain ⟨m, rfl⟩ : ∃ m, k = m + 1 := ⟨k - 1, by omega⟩; rw [hg]; exact hK m (by omega)⟩
/-- The elements behind a place move up by one. -/
theorem ins_l2 (l acc : List W) (i : Nat) (hi : i < l.length) (hl : l.length ≤ 1000) (j : Nat) (hj : j ≤ acc.length) (ha : acc.length ≤ 1000) (r : List W) (hr : Ev (fun k => affluxlaw22_union.l0 k l (acc.take j ++ l[i] :: acc.drop j) ((i + 1 : Nat) : Int)) r) :
    ∀ (n p : Nat) (z : W), p = j + n → p ≤ acc.length → Ev (fun k => affluxlaw22_union.l2 k l (acc.take p ++ z :: acc.drop p) (i : Int) (j : Int) (p : Int)) r := by
  intro n
  induction n with
  | zero =>
    intro p z hp hpl
    obtain rfl : p = j := by omega
    refine ev_step (fun k => ?_) hr
    have hlen : (acc.take p ++ z :: acc.drop p).length = acc.length + 1 := by simp; omega
    simp only [affluxlaw22_union.l2]
    rw [if_neg (by omega), if_pos (by omega), if_pos (by omega), if_pos (by omega), if_pos (by omega), rd31_at l i hi, w64i _ (by omega) (by omega), Int.toNat_natCast]
    have hs : (acc.take p ++ z :: acc.drop p).set p (⟨l[i].f0, l[i].f1⟩ : W) = acc.take p ++ l[i] :: acc.drop p := by
      rw [List.set_append_right _ _ (by rw [List.length_take]; omega)]
      simp [List.length_take, Nat.min_eq_left hpl]
    rw [hs]
    rfl
  | succ n ih =>
    intro p z hp hpl
    refine ev_step (h := fun k => affluxlaw22_union.l2 k l (acc.take (p - 1) ++ acc[p - 1] :: acc.drop (p - 1)) (i : Int) (j : Int) ((p - 1 : Nat) : Int)) (fun k => ?_) (ih (p - 1) acc[p - 1] (by omega) (by omega))
    have hlen : (acc.take p ++ z :: acc.drop p).length = acc.length + 1 := by simp; omega
    have hp1 : (p : Int) - 1 = ((p - 1 : Nat) : Int) := by omega
    simp only [affluxlaw22_union.l2]
    rw [if_pos (by omega), hp1, w64n _ (by omega), if_pos (by omega), if_pos (by omega), if_pos (by omega), if_pos (by omega), Int.toNat_natCast]
    have hrd : rd_T31 (acc.take p ++ z :: acc.drop p) ((p - 1 : Nat) : Int) = acc[p - 1] := by
      rw [rd31_at _ _ (by omega), List.getElem_append_left (by rw [List.length_take]; omega), List.getElem_take]
    rw [hrd]
    have hs : (acc.take p ++ z :: acc.drop p).set p (⟨acc[p - 1].f0, acc[p - 1].f1⟩ : W) = acc.take (p - 1) ++ acc[p - 1] :: acc.drop (p - 1) := by
      rw [List.set_append_right _ _ (by rw [List.length_take]; omega)]
      have e1 : acc.take p = acc.take (p - 1) ++ [acc[p - 1]] := by
        conv => lhs; rw [show p = (p - 1) + 1 by omega]
        rw [List.take_succ_eq_append_getElem (by omega)]
      have e2 : acc.drop (p - 1) = acc[p - 1] :: acc.drop p := by
        rw [List.drop_eq_getElem_cons (by omega), show p - 1 + 1 = p by omega]
      rw [e1, e2]
      have e3 : p - (acc.take (p - 1) ++ [acc[p - 1]]).length = 0 := by simp; omega
      rw [e3, List.set_cons_zero, List.append_assoc]
      rfl
    rw [hs]
theorem toList_inj {a b : ByteArray} (h : a.toList = b.toList) : a = b := by
  rw [ByteArray.toList_eq, ByteArray.toList_eq] at h
  exact ByteArray.ext (Array.toList_inj.1 h)
/-- From a place on at which all ahead are less. -/
theorem uni_l1 (l : List W) (hl : l.length ≤ 1000) (i : Nat) (hi : i < l.length) (acc : List W) (hU : US acc (l.take i)) (ha : acc.length ≤ i)
    (ih : ∀ acc', US acc' (l.take (i + 1)) → acc'.length ≤ i + 1 → ∃ r, US r l ∧ r.length ≤ l.length ∧ Ev (fun k => affluxlaw22_union.l0 k l acc' ((i + 1 : Nat) : Int)) r) :
    ∀ (n j : Nat), j + n = acc.length → (∀ z ∈ acc.take j, nl z l[i] = true) → ∃ r, US r l ∧ r.length ≤ l.length ∧ Ev (fun k => affluxlaw22_union.l1 k l acc (i : Int) (j : Int)) r := by
  have htk : l.take (i + 1) = l.take i ++ [l[i]] := List.take_succ_eq_append_getElem hi
  -- a new name goes in at place j
  have hins : ∀ j, j ≤ acc.length → (∀ z ∈ acc.take j, nl z l[i] = true) → (∀ z ∈ acc.drop j, nl l[i] z = true) → ∃ r, US r l ∧ r.length ≤ l.length ∧ Ev (fun k => affluxlaw22_union.j3 k l acc (i : Int) (j : Int) false) r := fun j hj h1 h2 => by
    have hU2 : US (acc.take j ++ l[i] :: acc.drop j) (l.take (i + 1)) := by
      rw [htk]
      exact US.insert (by rw [List.take_append_drop]; exact hU) h1 h2
    obtain ⟨r, hr, hrl, hev⟩ := ih _ hU2 (by simp; omega)
    refine ⟨r, hr, hrl, ?_⟩
    have h3 := ins_l2 l acc i hi hl j hj (by omega) r hev (acc.length - j) acc.length (⟨(⟨#[]⟩ : ByteArray), false⟩ : W) (by omega) (Nat.le_refl _)
    rw [List.take_length, List.drop_length] at h3
    refine ev_step (fun k => ?_) h3
    simp only [affluxlaw22_union.j3, Bool.false_eq_true, if_false]
    rw [if_pos (by omega), Option.bind_some]
    have : wrap64 (((acc ++ [(⟨(⟨#[]⟩ : ByteArray), false⟩ : W)]).length : Int) - 1) = (acc.length : Int) := by
      rw [List.length_append, List.length_singleton, w64i _ (by omega) (by omega)]; omega
    rw [this]
  intro n
  induction n with
  | zero =>
    intro j hj h1
    obtain ⟨r, hr, hrl, hev⟩ := hins j (by omega) h1 (fun z hz => by rw [List.drop_eq_nil_of_le (by omega)] at hz; simp at hz)
    refine ⟨r, hr, hrl, ev_step (h := fun k => affluxlaw22_union.j2 k l acc (i : Int) (j : Int)) (fun k => ?_) (ev_step (fun k => ?_) hev)⟩
    · simp only [affluxlaw22_union.l1]
      rw [if_neg (by omega)]
    · simp only [affluxlaw22_union.j2]
      rw [if_neg (by omega)]
  | succ n ihn =>
    intro j hj h1
    have hjl : j < acc.length := by omega
    have htj : acc.take (j + 1) = acc.take j ++ [acc[j]] := List.take_succ_eq_append_getElem hjl
    have hdj : acc.drop j = acc[j] :: acc.drop (j + 1) := List.drop_eq_getElem_cons hjl
    have hacc : acc = acc.take j ++ acc[j] :: acc.drop (j + 1) := by
      conv => lhs; rw [← List.take_append_drop j acc, hdj]
    cases hlt : nl acc[j] l[i] with
    | true =>
      obtain ⟨r, hr, hrl, hev⟩ := ihn (j + 1) (by omega) (fun z hz => by
        rw [htj] at hz
        rcases List.mem_append.1 hz with hz | hz
        · exact h1 z hz
        · rw [List.mem_singleton.1 hz]; exact hlt)
      refine ⟨r, hr, hrl, ev_step (fun k => ?_) hev⟩
      simp only [affluxlaw22_union.l1]
      rw [if_pos (by omega), if_pos (by omega), if_pos (by omega), if_pos (by omega), rd31_at acc j hjl, rd31_at l i hi, if_pos (show Op.bytesLess acc[j].f0.toList l[i].f0.toList = true from hlt), w64i _ (by omega) (by omega)]
      rfl
    | false =>
      by_cases he : acc[j].f0.toList = l[i].f0.toList
      · have hn := toList_inj he
        have hU2 : US (acc.take j ++ ⟨acc[j].f0, acc[j].f1 || l[i].f1⟩ :: acc.drop (j + 1)) (l.take (i + 1)) := by
          rw [htk]
          exact US.merge (by rw [← hacc]; exact hU) hn
        have hset : acc.set j ⟨acc[j].f0, acc[j].f1 || l[i].f1⟩ = acc.take j ++ ⟨acc[j].f0, acc[j].f1 || l[i].f1⟩ :: acc.drop (j + 1) := by
          rw [List.set_eq_take_append_cons_drop, if_pos hjl]
        rw [← hset] at hU2
        obtain ⟨r, hr, hrl, hev⟩ := ih _ hU2 (by rw [List.length_set]; omega)
        refine ⟨r, hr, hrl, ev_step (h := fun k => affluxlaw22_union.j2 k l acc (i : Int) (j : Int)) (fun k => ?_) (ev_step (h := fun k => affluxlaw22_union.j3 k l acc (i : Int) (j : Int) true) (fun k => ?_) (ev_step (fun k => ?_) hev))⟩
        · simp only [affluxlaw22_union.l1]
          rw [if_pos (by omega), if_pos (by omega), if_pos (by omega), if_pos (by omega), rd31_at acc j hjl, rd31_at l i hi, if_neg (by show ¬ nl acc[j] l[i] = true; rw [hlt]; decide)]
        · simp only [affluxlaw22_union.j2]
          rw [if_pos (by omega), if_pos (by omega), if_pos (by omega), if_pos (by omega), rd31_at acc j hjl, rd31_at l i hi, beq_iff_eq.2 he]
        · simp only [affluxlaw22_union.j3]
          rw [if_pos trivial, if_pos (by omega), if_pos (by omega), rd31_at acc j hjl, Int.toNat_natCast, w64i _ (by omega) (by omega)]
          cases hf : acc[j].f1 with
          | true =>
            rw [if_pos rfl]
            rfl
          | false =>
            rw [if_neg (by decide), if_pos (by omega), if_pos (by omega), rd31_at l i hi]
            rfl
      · have hgt : nl l[i] acc[j] = true := by
          cases hh : nl l[i] acc[j] with
          | true => rfl
          | false => exact absurd (by rw [nl_tri hlt hh]) he
        obtain ⟨r, hr, hrl, hev⟩ := hins j (by omega) h1 (fun z hz => by
          rw [hdj] at hz
          rcases List.mem_cons.1 hz with e | hz
          · rw [e]; exact hgt
          · have h2 := hU.asc
            rw [hacc, List.pairwise_append, List.pairwise_cons] at h2
            exact nl_trans hgt (h2.2.1.1 z hz))
        refine ⟨r, hr, hrl, ev_step (h := fun k => affluxlaw22_union.j2 k l acc (i : Int) (j : Int)) (fun k => ?_) (ev_step (fun k => ?_) hev)⟩
        · simp only [affluxlaw22_union.l1]
          rw [if_pos (by omega), if_pos (by omega), if_pos (by omega), if_pos (by omega), rd31_at acc j hjl, rd31_at l i hi, if_neg (by show ¬ nl acc[j] l[i] = true; rw [hlt]; decide)]
        · simp only [affluxlaw22_union.j2]
          rw [if_pos (by omega), if_pos (by omega), if_pos (by omega), if_pos (by omega), rd31_at acc j hjl, rd31_at l i hi, beq_eq_false_iff_ne.2 he]
theorem union_go (l : List W) (hl : l.length ≤ 1000) : ∀ (n i : Nat) (acc : List W), i + n = l.length → US acc (l.take i) → acc.length ≤ i → ∃ r, US r l ∧ r.length ≤ l.length ∧ Ev (fun k => affluxlaw22_union.l0 k l acc (i : Int)) r := by
  intro n
  induction n with
  | zero =>
    intro i acc hi hU ha
    rw [List.take_of_length_le (by omega)] at hU
    refine ⟨acc, hU, by omega, ⟨1, fun k hk => ?_⟩⟩
    obtain ⟨m, rfl⟩ : ∃ m, k = m + 1 := ⟨k - 1, by omega⟩
    simp only [affluxlaw22_union.l0]
    rw [if_neg (by omega)]
  | succ n ih =>
    intro i acc hi hU ha
    obtain ⟨r, hr, hrl, hev⟩ := uni_l1 l hl i (by omega) acc hU ha (fun acc' h1 h2 => ih (i + 1) acc' (by omega) h1 h2) acc.length 0 (by omega) (fun z hz => by simp at hz)
    refine ⟨r, hr, hrl, ev_step (fun k => ?_) hev⟩
    simp only [affluxlaw22_union.l0]
    rw [if_pos (by omega)]
    rfl
/-- The law's own union comes to the same. -/
theorem union_at (l : List W) (hl : l.length ≤ 1000) : Ev (fun k => affluxlaw22_union.f k l) (uniL (sortL l)) := by
  obtain ⟨r, hr, hrl, hev⟩ := union_go l hl l.length 0 [] (by omega) (by simpa using US.nil) (Nat.zero_le _)
  rw [← hr.uniq (uni_US l)]
  exact hev
end Go.Proofs.Ytbpadimcnamdpaa.PK
/- lock: what the law's own functions come to. -/
namespace Go.Proofs.Ytbpadimcnamdpaa.PK
open Go.RowKit Go.Proofs.YtbpadimcnamdpaaW.PrintWords Go.Proofs.YtbpadimcnamdpaaW.PrintLast Go.Proofs.YtbpadimcnamdpaaW.PrintMore
abbrev Act_ := S26
theorem rd26_at (l : List Act_) (i : Nat) (h : i < l.length) : rd_T26 l (i : Int) = l[i] := by simp [rd_T26, List.getD, h]
theorem clash_one (x y : W) : Ev (fun k => affluxlaw22_clash.f k [x] [y]) (clash1 x y) := by
  refine ⟨10, fun k hk => ?_⟩
  obtain ⟨k, rfl⟩ : ∃ m, k = m + 1 := ⟨k - 1, by omega⟩
  obtain ⟨k, rfl⟩ : ∃ m, k = m + 1 := ⟨k - 1, by omega⟩
  obtain ⟨k, rfl⟩ : ∃ m, k = m + 1 := ⟨k - 1, by omega⟩
  obtain ⟨k, rfl⟩ : ∃ m, k = m + 1 := ⟨k - 1, by omega⟩
  have h0 : rd_T31 [x] 0 = x := rfl
  have h1 : rd_T31 [y] 0 = y := rfl
  have hl : ∀ z : W, ([z].length : Int) = 1 := fun z => rfl
  have hw : wrap64 (0 + 1) = 1 := by rw [w64i _ (by omega) (by omega)]; rfl
  unfold affluxlaw22_clash.f
  simp only [affluxlaw22_clash.l0, affluxlaw22_clash.l1, hl, h0, h1, hw]
  unfold clash1
  by_cases he : x.f0.toList = y.f0.toList
  · rw [decide_eq_true he]
    cases hx : x.f1 <;> cases hy : y.f1 <;> simp [he]
  · rw [decide_eq_false he]
    simp [he]
theorem great_go (l : List Act_) (hl : l.length ≤ 60) : ∀ (n i : Nat), i + n = l.length → ∃ r, Ev (fun k => affluxlaw22_great.l0 k l (i : Int)) r ∧ (r = false → ∀ j (hj : j < l.length), i ≤ j → l[j].f3.length ≤ 10 ∧ l[j].f2.length ≤ 10 ∧ ∀ x ∈ l[j].f3, x.f0.size ≤ 100) := by
  intro n
  induction n with
  | zero =>
    intro i hi
    refine ⟨false, ⟨1, fun k hk => ?_⟩, fun _ j hj hij => by omega⟩
    obtain ⟨m, rfl⟩ : ∃ m, k = m + 1 := ⟨k - 1, by omega⟩
    simp only [affluxlaw22_great.l0]
    rw [if_neg (by omega)]
  | succ n ih =>
    intro i hi
    have hil : i < l.length := by omega
    -- the names of one act
    have inner : ∀ (m j : Nat), j + m = l[i].f3.length → l[i].f3.length ≤ 1000 → ∃ r, Ev (fun k => affluxlaw22_great.l1 k l (i : Int) (j : Int)) r ∧ (r = false → (∀ q (hq : q < l[i].f3.length), j ≤ q → l[i].f3[q].f0.size ≤ 100) ∧ ∀ q (hq : q < l.length), i + 1 ≤ q → l[q].f3.length ≤ 10 ∧ l[q].f2.length ≤ 10 ∧ ∀ x ∈ l[q].f3, x.f0.size ≤ 100) := by
      intro m
      induction m with
      | zero =>
        intro j hj hsm
        obtain ⟨r, hev, hr⟩ := ih (i + 1) (by omega)
        refine ⟨r, ev_step (fun k => ?_) hev, fun h => ⟨fun q hq hjq => by omega, hr h⟩⟩
        simp only [affluxlaw22_great.l1]
        rw [if_pos (by omega), if_pos (by omega), rd26_at l i hil, if_neg (by omega), w64i _ (by omega) (by omega)]
        rfl
      | succ m ihm =>
        intro j hj hsm
        have hjl : j < l[i].f3.length := by omega
        by_cases hb : 100 < l[i].f3[j].f0.size
        · refine ⟨true, ⟨1, fun k hk => ?_⟩, fun h => by cases h⟩
          obtain ⟨k, rfl⟩ : ∃ m, k = m + 1 := ⟨k - 1, by omega⟩
          simp only [affluxlaw22_great.l1]
          rw [if_pos (by omega), if_pos (by omega), rd26_at l i hil, if_pos (by omega), if_pos (by omega), rd31_at _ j hjl, if_pos (by omega)]
        · obtain ⟨r, hev, hr⟩ := ihm (j + 1) (by omega) hsm
          refine ⟨r, ev_step (fun k => ?_) hev, fun h => ⟨fun q hq hjq => ?_, (hr h).2⟩⟩
          · simp only [affluxlaw22_great.l1]
            rw [if_pos (by omega), if_pos (by omega), rd26_at l i hil, if_pos (by omega), if_pos (by omega), rd31_at _ j hjl, if_neg (by omega), w64i _ (by omega) (by omega)]
            rfl
          · by_cases e : j = q
            · subst e; omega
            · exact (hr h).1 q hq (by omega)
    by_cases h3 : 10 < l[i].f3.length
    · refine ⟨true, ⟨2, fun k hk => ?_⟩, fun h => by cases h⟩
      obtain ⟨k, rfl⟩ : ∃ m, k = m + 1 := ⟨k - 1, by omega⟩
      obtain ⟨k, rfl⟩ : ∃ m, k = m + 1 := ⟨k - 1, by omega⟩
      simp only [affluxlaw22_great.l0]
      rw [if_pos (by omega), if_pos (by omega), rd26_at l i hil, if_pos (by omega)]
      simp only [affluxlaw22_great.j1, if_true]
    · by_cases h2 : 10 < l[i].f2.length
      · refine ⟨true, ⟨2, fun k hk => ?_⟩, fun h => by cases h⟩
        obtain ⟨k, rfl⟩ : ∃ m, k = m + 1 := ⟨k - 1, by omega⟩
        obtain ⟨k, rfl⟩ : ∃ m, k = m + 1 := ⟨k - 1, by omega⟩
        simp only [affluxlaw22_great.l0]
        rw [if_pos (by omega), if_pos (by omega), rd26_at l i hil, if_neg (by omega), decide_eq_true (by omega)]
        simp only [affluxlaw22_great.j1, if_true]
      · obtain ⟨r, hev, hr⟩ := inner l[i].f3.length 0 (by omega) (by omega)
        refine ⟨r, ev_step (h := fun k => affluxlaw22_great.j1 k l (i : Int) false) (fun k => ?_) (ev_step (fun k => ?_) hev), fun h j hj hij => ?_⟩
        · simp only [affluxlaw22_great.l0]
          rw [if_pos (by omega), if_pos (by omega), rd26_at l i hil, if_neg (by omega), decide_eq_false (by omega)]
        · simp only [affluxlaw22_great.j1, Bool.false_eq_true, if_false]
          rfl
        · by_cases e : i = j
          · subst e
            refine ⟨by omega, by omega, fun x hx => ?_⟩
            obtain ⟨q, hq, rfl⟩ := List.getElem_of_mem hx
            exact (hr h).1 q hq (Nat.zero_le _)
          · exact (hr h).2 j hj (by omega)
theorem great_at (l : List Act_) : ∃ r, Ev (fun k => affluxlaw22_great.f k l) r ∧ (r = false → l.length ≤ 60 ∧ ∀ j (hj : j < l.length), l[j].f3.length ≤ 10 ∧ l[j].f2.length ≤ 10 ∧ ∀ x ∈ l[j].f3, x.f0.size ≤ 100) := by
  by_cases h : 60 < l.length
  · refine ⟨true, ⟨0, fun k _ => ?_⟩, fun h => by cases h⟩
    unfold affluxlaw22_great.f
    dsimp only
    rw [if_pos (by omega)]
  · obtain ⟨r, hev, hr⟩ := great_go l (by omega) l.length 0 (by omega)
    refine ⟨r, ?_, fun hh => ⟨by omega, fun j hj => hr hh j hj (Nat.zero_le _)⟩⟩
    obtain ⟨K, hK⟩ := hev
    refine ⟨K, fun k hk => ?_⟩
    unfold affluxlaw22_great.f
    dsimp only
    rw [if_neg (by omega)]
    exact hK k hk
theorem wants_go (l : List W) (hl : l.length ≤ 1000) : ∀ (n i : Nat), i + n = l.length → Ev (fun k => affluxlaw22_wants.l0 k l l (i : Int)) true := by
  intro n
  induction n with
  | zero =>
    intro i hi
    refine ⟨1, fun k hk => ?_⟩
    obtain ⟨m, rfl⟩ : ∃ m, k = m + 1 := ⟨k - 1, by omega⟩
    simp only [affluxlaw22_wants.l0]
    rw [if_neg (by omega)]
  | succ n ih =>
    intro i hi
    refine ev_step (fun k => ?_) (ih (i + 1) (by omega))
    simp only [affluxlaw22_wants.l0]
    rw [if_pos (by omega), if_pos (by omega), if_pos (by omega), if_neg (by simp), w64i _ (by omega) (by omega)]
    rfl
theorem wants_at (l : List W) (hl : l.length ≤ 1000) : Ev (fun k => affluxlaw22_wants.f k l l) true := by
  obtain ⟨K, hK⟩ := wants_go l hl l.length 0 (by omega)
  refine ⟨K, fun k hk => ?_⟩
  unfold affluxlaw22_wants.f
  dsimp only
  rw [if_pos rfl]
  exact hK k hk
end Go.Proofs.Ytbpadimcnamdpaa.PK
/- lock: the law's own clash, find, ready: what they come to. -/
namespace Go.Proofs.Ytbpadimcnamdpaa.PK
open Go.RowKit Go.Proofs.YtbpadimcnamdpaaW.PrintWords Go.Proofs.YtbpadimcnamdpaaW.PrintLast Go.Proofs.YtbpadimcnamdpaaW.PrintMore
abbrev Was := S55
/-- Do any two clash? -/
def anyClash (a b : List W) : Bool := a.any fun x => b.any fun y => clash1 x y
theorem clash_go (a b : List W) (ha : a.length ≤ 1000) (hb : b.length ≤ 1000) : ∀ (n i : Nat), i + n = a.length → Ev (fun k => affluxlaw22_clash.l0 k a b (i : Int)) ((a.drop i).any fun x => b.any fun y => clash1 x y) := by
  intro n
  induction n with
  | zero =>
    intro i hi
    refine ⟨1, fun k hk => ?_⟩
    obtain ⟨m, rfl⟩ : ∃ m, k = m + 1 := ⟨k - 1, by omega⟩
    simp only [affluxlaw22_clash.l0]
    rw [if_neg (by omega), List.drop_eq_nil_of_le (by omega)]
    rfl
  | succ n ih =>
    intro i hi
    have hil : i < a.length := by omega
    have inner : ∀ (m j : Nat), j + m = b.length → Ev (fun k => affluxlaw22_clash.l1 k a b (i : Int) (j : Int)) (((b.drop j).any fun y => clash1 a[i] y) || ((a.drop (i + 1)).any fun x => b.any fun y => clash1 x y)) := by
      intro m
      induction m with
      | zero =>
        intro j hj
        rw [List.drop_eq_nil_of_le (by omega), List.any_nil, Bool.false_or]
        refine ev_step (fun k => ?_) (ih (i + 1) (by omega))
        simp only [affluxlaw22_clash.l1]
        rw [if_neg (by omega), w64i _ (by omega) (by omega)]
        rfl
      | succ m ihm =>
        intro j hj
        have hjl : j < b.length := by omega
        rw [List.drop_eq_getElem_cons hjl, List.any_cons]
        have hstep := ihm (j + 1) (by omega)
        cases hc : clash1 a[i] b[j] with
        | true =>
          refine ⟨1, fun k hk => ?_⟩
          obtain ⟨m, rfl⟩ : ∃ m, k = m + 1 := ⟨k - 1, by omega⟩
          unfold clash1 at hc
          simp only [Bool.and_eq_true, Bool.or_eq_true, decide_eq_true_eq] at hc
          simp only [affluxlaw22_clash.l1]
          rw [if_pos (by omega), if_pos (by omega), if_pos (by omega), if_pos (by omega), rd31_at _ i hil, rd31_at _ j hjl, if_pos hc.1]
          rcases hc.2 with h | h
          · rw [if_pos h]; rfl
          · by_cases h2 : a[i].f1 = true
            · rw [if_pos h2]; rfl
            · rw [if_neg h2, if_pos h]; rfl
        | false =>
          rw [Bool.false_or]
          refine ev_step (fun k => ?_) hstep
          unfold clash1 at hc
          simp only [affluxlaw22_clash.l1]
          rw [if_pos (by omega), if_pos (by omega), if_pos (by omega), if_pos (by omega), rd31_at _ i hil, rd31_at _ j hjl, w64i _ (by omega) (by omega)]
          by_cases he : a[i].f0.toList = b[j].f0.toList
          · rw [if_pos he]
            simp only [he, decide_true, Bool.true_and, Bool.or_eq_false_iff] at hc
            rw [if_neg (by rw [hc.1]; decide), if_neg (by rw [hc.2]; decide)]
            rfl
          · rw [if_neg he]
            rfl
    rw [List.drop_eq_getElem_cons hil, List.any_cons]
    refine ev_step (fun k => ?_) (inner b.length 0 (by omega))
    simp only [affluxlaw22_clash.l0]
    rw [if_pos (by omega)]
    rfl
theorem clash_at (a b : List W) (ha : a.length ≤ 1000) (hb : b.length ≤ 1000) : Ev (fun k => affluxlaw22_clash.f k a b) (anyClash a b) := clash_go a b ha hb a.length 0 (by omega)
theorem rd55_at (l : List Was) (i : Nat) (h : i < l.length) : rd_T55 l (i : Int) = l[i] := by simp [rd_T55, List.getD, h]
theorem find_go (l : List Was) (id : Int) (hl : l.length ≤ 1000000) : ∀ (n i : Nat), i + n = l.length → ∃ r, Ev (fun k => affluxlaw22_find.l0 k l id (i : Int)) r ∧ (r < 0 ∨ ∃ j : Nat, r = (j : Int) ∧ j < l.length) := by
  intro n
  induction n with
  | zero =>
    intro i hi
    refine ⟨-1, ⟨1, fun k hk => ?_⟩, .inl (by decide)⟩
    obtain ⟨m, rfl⟩ : ∃ m, k = m + 1 := ⟨k - 1, by omega⟩
    simp only [affluxlaw22_find.l0]
    rw [if_neg (by omega)]
  | succ n ih =>
    intro i hi
    have hil : i < l.length := by omega
    by_cases he : l[i].f0 = id
    · refine ⟨(i : Int), ⟨1, fun k hk => ?_⟩, .inr ⟨i, rfl, hil⟩⟩
      obtain ⟨m, rfl⟩ : ∃ m, k = m + 1 := ⟨k - 1, by omega⟩
      simp only [affluxlaw22_find.l0]
      rw [if_pos (by omega), if_pos (by omega), rd55_at _ i hil, if_pos he]
    · obtain ⟨r, hev, hr⟩ := ih (i + 1) (by omega)
      refine ⟨r, ev_step (fun k => ?_) hev, hr⟩
      simp only [affluxlaw22_find.l0]
      rw [if_pos (by omega), if_pos (by omega), rd55_at _ i hil, if_neg he, w64i _ (by omega) (by omega)]
      rfl
theorem find_at (l : List Was) (id : Int) (hl : l.length ≤ 1000000) : ∃ r, Ev (fun k => affluxlaw22_find.f k l id) r ∧ (r < 0 ∨ ∃ j : Nat, r = (j : Int) ∧ j < l.length) := find_go l id hl l.length 0 (by omega)
theorem ready_go (l : List Was) (at_ : Nat) (hat : at_ < l.length) (hl : l.length ≤ 1000000) (hw : ∀ x ∈ l, x.f1.length ≤ 1000) : ∀ (n i : Nat), i + n = l.length → ∃ r, Ev (fun k => affluxlaw22_ready.l0 k l (at_ : Int) (i : Int)) r := by
  intro n
  induction n with
  | zero =>
    intro i hi
    refine ⟨!(rd_T55 l (at_ : Int)).f2, ⟨1, fun k hk => ?_⟩⟩
    obtain ⟨m, rfl⟩ : ∃ m, k = m + 1 := ⟨k - 1, by omega⟩
    simp only [affluxlaw22_ready.l0]
    rw [if_neg (by omega), if_pos (by omega), if_pos (by omega)]
  | succ n ih =>
    intro i hi
    have hil : i < l.length := by omega
    obtain ⟨r, hev⟩ := ih (i + 1) (by omega)
    obtain ⟨K1, hK1⟩ := hev
    obtain ⟨K2, hK2⟩ := clash_at l[i].f1 l[at_].f1 (hw _ (List.getElem_mem hil)) (hw _ (List.getElem_mem hat))
    by_cases hgo : ¬ i = at_ ∧ (l[i].f2 = true ∨ i < at_) ∧ anyClash l[i].f1 l[at_].f1 = true
    · refine ⟨false, ⟨K1 + K2 + 1, fun k hk => ?_⟩⟩
      obtain ⟨m, rfl⟩ : ∃ m, k = m + 1 := ⟨k - 1, by omega⟩
      simp only [affluxlaw22_ready.l0]
      rw [if_pos (by omega), if_neg (by omega), if_pos (by omega), rd55_at _ i hil, rd55_at _ at_ hat]
      have hc : affluxlaw22_clash.f m l[i].f1 l[at_].f1 = some true := (hK2 m (by omega)).trans (by rw [hgo.2.2])
      by_cases hh : l[i].f2 = true
      · rw [if_pos hh, if_pos (by omega), if_pos (by omega), hc]; rfl
      · rw [if_neg hh, if_pos (by rcases hgo.2.1 with h | h; exact absurd h hh; omega), if_pos (by omega), if_pos (by omega), hc]; rfl
    · refine ⟨r, ⟨K1 + K2 + 1, fun k hk => ?_⟩⟩
      obtain ⟨m, rfl⟩ : ∃ m, k = m + 1 := ⟨k - 1, by omega⟩
      have hc : affluxlaw22_clash.f m l[i].f1 l[at_].f1 = some (anyClash l[i].f1 l[at_].f1) := hK2 m (by omega)
      have hn : affluxlaw22_ready.l0 m l (at_ : Int) (wrap64 ((i : Int) + 1)) = some r := by rw [w64i _ (by omega) (by omega)]; exact hK1 m (by omega)
      simp only [affluxlaw22_ready.l0]
      rw [if_pos (by omega), hn, rd55_at _ i hil, rd55_at _ at_ hat, hc]
      by_cases he : (i : Int) = (at_ : Int)
      · rw [if_pos he]
      · rw [if_neg he, if_pos (by omega)]
        by_cases hh : l[i].f2 = true
        · have hcf : anyClash l[i].f1 l[at_].f1 = false := by
            cases h : anyClash l[i].f1 l[at_].f1 with
            | false => rfl
            | true => exact absurd ⟨by omega, .inl hh, h⟩ hgo
          rw [if_pos hh, if_pos (by omega), if_pos (by omega), hcf]; rfl
        · rw [if_neg hh]
          by_cases hlt : (i : Int) < (at_ : Int)
          · have hcf : anyClash l[i].f1 l[at_].f1 = false := by
              cases h : anyClash l[i].f1 l[at_].f1 with
              | false => rfl
              | true => exact absurd ⟨by omega, .inr (by omega), h⟩ hgo
            rw [if_pos hlt, if_pos (by omega), if_pos (by omega), hcf]; rfl
          · rw [if_neg hlt]
theorem lready_at (l : List Was) (at_ : Nat) (hat : at_ < l.length) (hl : l.length ≤ 1000000) (hw : ∀ x ∈ l, x.f1.length ≤ 1000) : ∃ r, Ev (fun k => affluxlaw22_ready.f k l (at_ : Int)) r := ready_go l at_ hat hl hw l.length 0 (by omega)
end Go.Proofs.Ytbpadimcnamdpaa.PK
/- lock: of no table nothing comes. -/
namespace Go.Proofs.Ytbpadimcnamdpaa.PK
open Go.RowKit Go.Proofs.YtbpadimcnamdpaaW.PrintWords Go.Proofs.YtbpadimcnamdpaaW.PrintLast Go.Proofs.YtbpadimcnamdpaaW.PrintMore
set_option maxRecDepth 100000 in
theorem ask_nil (id : Int) (v : Value) (w : World) : Calls Try.prog 21 #[.pointer none, .int .i64 id, v] w fun e w' => e = .returned (.int .i64 1) ∧ w' = w := by
  go_enter Try.func21, Try.ntmps21
  go_wp2
  go_ret
  exact ⟨rfl, rfl⟩
set_option maxRecDepth 100000 in
theorem grant_nil (v : Value) (w : World) : Calls Try.prog 20 #[.pointer none, v] w fun e w' => e = .returned (.int .i64 1) ∧ w' = w := by
  go_enter Try.func20, Try.ntmps20
  go_wp2
  go_ret
  exact ⟨rfl, rfl⟩
set_option maxRecDepth 100000 in
theorem free_nil (v : Value) (w : World) : Calls Try.prog 19 #[.pointer none, v] w fun e w' => e = .returned (.int .i64 1) ∧ w' = w := by
  go_enter Try.func19, Try.ntmps19
  go_wp2
  go_ret
  exact ⟨rfl, rfl⟩
set_option maxRecDepth 100000 in
theorem ids_nil (v : Value) (w : World) : Calls Try.prog 28 #[.pointer none, v] w fun e w' => e = .returned (.slice none 0 0) ∧ w' = w := by
  go_enter Try.func28, Try.ntmps28
  go_wp2
  go_ret
  exact ⟨rfl, rfl⟩
set_option maxRecDepth 100000 in
theorem ready_nil (w : World) : Calls Try.prog 18 #[.pointer none] w fun e w' => e = .returned (.slice none 0 0) ∧ Below w.heap.size w w' := by
  go_enter Try.func18, Try.ntmps18
  go_wp2_with fail
  refine (ids_nil _ _).mono ?_
  rintro e w1 ⟨rfl, rfl⟩
  go_wp2_with fail
  go_ret
  exact ⟨rfl, below_alloc (Below.refl _ _) _⟩
set_option maxRecDepth 100000 in
theorem waiting_nil (w : World) : Calls Try.prog 17 #[.pointer none] w fun e w' => e = .returned (.slice none 0 0) ∧ Below w.heap.size w w' := by
  go_enter Try.func17, Try.ntmps17
  go_wp2_with fail
  refine (ids_nil _ _).mono ?_
  rintro e w1 ⟨rfl, rfl⟩
  go_wp2_with fail
  go_ret
  exact ⟨rfl, below_alloc (Below.refl _ _) _⟩
set_option maxRecDepth 100000 in
theorem holding_nil (w : World) : Calls Try.prog 15 #[.pointer none] w fun e w' => e = .returned (.slice none 0 0) ∧ Below w.heap.size w w' := by
  go_enter Try.func15, Try.ntmps15
  go_wp2_with fail
  refine (ids_nil _ _).mono ?_
  rintro e w1 ⟨rfl, rfl⟩
  go_wp2_with fail
  refine (Try.slices_Sort_int_none none 0 _).mono ?_
  rintro e w1 ⟨rfl, rfl⟩
  go_wp2_with fail
  go_ret
  exact ⟨rfl, below_alloc (Below.refl _ _) _⟩
set_option maxRecDepth 100000 in
theorem wants_nil (id : Int) (w : World) : Calls Try.prog 16 #[.pointer none, .int .i64 id] w fun e w' => e = .returned (.slice none 0 0) ∧ w' = w := by
  go_enter Try.func16, Try.ntmps16
  go_wp2
  go_ret
  exact ⟨rfl, rfl⟩
set_option maxHeartbeats 2000000 in
set_option maxRecDepth 100000 in
theorem LockNone_calls (id : Int) (nm : ByteArray) (wr : Bool) (w : World) : Calls Try.prog 5 #[.int .i64 id, .agg #[.string nm, .bool wr]] w fun e w' => e = .returned (.bool true) ∧ Below w.heap.size w w' := by
  by_cases hbig : (nm.size : Int) > 100
  · go_enter Try.func5, Try.ntmps5
    go_wp2_with fail
    refine (awake_calls _).mono ?_
    rintro e w1 ⟨rfl, hb1⟩
    have HB := Aside0.mk (below_step (below_alloc (Below.refl w.heap.size w) _) hb1)
    clear hb1
    go_wp2_with fail
    go_ret
    exact ⟨rfl, HB.out⟩
  · go_enter Try.func5, Try.ntmps5
    go_wp2_with fail
    refine (ask_nil _ _ _).mono ?_
    rintro e w1 ⟨rfl, rfl⟩
    have HB := Aside0.mk (below_alloc (below_alloc (Below.refl w.heap.size w) (.cells #[.string nm, .bool wr] 31)) (.cells #[.string nm, .bool wr] 31))
    generalize ((w.alloc (.cells #[.string nm, .bool wr] 31)).alloc (.cells #[.string nm, .bool wr] 31)) = w1 at HB ⊢
    go_wp2_with fail
    refine (grant_nil _ _).mono ?_
    rintro e w2 ⟨rfl, rfl⟩
    replace HB := Aside0.mk (below_alloc HB.out (.cells #[.int .i64 id] 3))
    generalize w1.alloc (.cells #[.int .i64 id] 3) = w2 at HB ⊢
    go_wp2_with fail
    refine (free_nil _ _).mono ?_
    rintro e w3 ⟨rfl, rfl⟩
    replace HB := Aside0.mk (below_alloc HB.out (.cells #[.int .i64 id] 3))
    generalize w2.alloc (.cells #[.int .i64 id] 3) = w3 at HB ⊢
    go_wp2_with fail
    refine (ready_nil _).mono ?_
    rintro e w4 ⟨rfl, hb⟩
    replace HB := Aside0.mk (below_step HB.out hb)
    clear hb
    go_wp2_with fail
    refine (waiting_nil _).mono ?_
    rintro e w5 ⟨rfl, hb⟩
    replace HB := Aside0.mk (below_step HB.out hb)
    clear hb
    go_wp2_with fail
    refine (holding_nil _).mono ?_
    rintro e w6 ⟨rfl, hb⟩
    replace HB := Aside0.mk (below_step HB.out hb)
    clear hb
    go_wp2_with fail
    refine (wants_nil _ _).mono ?_
    rintro e w7 ⟨rfl, rfl⟩
    go_wp2_with fail
    refine (awake_calls _).mono ?_
    rintro e w8 ⟨rfl, hb⟩
    replace HB := Aside0.mk (below_step HB.out hb)
    clear hb
    go_wp2_with fail
    go_ret
    exact ⟨rfl, HB.out⟩
end Go.Proofs.Ytbpadimcnamdpaa.PK
/- lock: Holding. -/
namespace Go.Proofs.Ytbpadimcnamdpaa.PK
open Go.RowKit Go.Proofs.YtbpadimcnamdpaaW.PrintWords Go.Proofs.YtbpadimcnamdpaaW.PrintLast Go.Proofs.YtbpadimcnamdpaaW.PrintMore
theorem rInt_holds {w : World} {base g cap : Nat} {ok : Nat → Prop} {xs : List Int} (h : Kd.R (Kd.int .i64) 3 w base ok (.slice (some ⟨g, 0, none⟩) xs.length cap) xs) : Sort.Holds (Value.int .i64) w g 0 xs.toArray := by
  obtain ⟨hok, inner, ⟨hlen, hrow⟩, hlen2, hreps⟩ := h
  rcases hrow with ⟨he, _⟩ | ⟨g', cap', cur, he, hb, hheap, hle, hcm, hsz, htake⟩
  · cases he
  · injection he with he1 he2 he3
    injection he1 with he1
    injection he1 with he1
    subst he1
    intro j hj
    have hi : j < xs.length := by simpa using hj
    have hl1 : inner.length = xs.length := by rw [hlen]; show xs.length * 1 = _; omega
    constructor
    · unfold World.cell?
      rw [hheap]
      simp only [Option.isSome_none, Bool.false_eq_true, if_false, Nat.zero_add]
      have hc := hreps j xs[j] (List.getElem?_eq_getElem hi)
      have hc' : (inner.drop (j * 1)).take 1 = [Value.int .i64 xs[j]] := hc
      rw [Nat.mul_one] at hc'
      have h1 : inner[j]? = some (Value.int .i64 xs[j]) := by
        have := congrArg (fun q : List Value => q[0]?) hc'
        simpa using this
      have h2 : cur[j]? = inner[j]? := by
        rw [← htake, List.getElem?_take, if_pos (by show j < xs.length * 1; omega), Array.getElem?_toList]
      rw [h2, h1, getElem!_pos _ _ (by simpa using hi)]
      simp
    · unfold World.frozen?
      rw [hheap]
      simp
theorem rInt_put {w : World} {base g cap : Nat} {ok : Nat → Prop} {xs : List Int} (h : Kd.R (Kd.int .i64) 3 w base ok (.slice (some ⟨g, 0, none⟩) xs.length cap) xs) (m : Nat) (ys : List Int) (os : Array Obj) (hs : ys.length = xs.length) :
    Kd.R (Kd.int .i64) 3 (Sort.grow (Sort.putRow (Value.int .i64) (Sort.ahead w m) g 0 ys.toArray) os) base ok (.slice (some ⟨g, 0, none⟩) xs.length cap) ys ∧ w.grownBy (Sort.grow (Sort.putRow (Value.int .i64) (Sort.ahead w m) g 0 ys.toArray) os) (some g) := by
  obtain ⟨hok, inner, ⟨hlen, hrow⟩, hlen2, hreps⟩ := h
  rcases hrow with ⟨he, _⟩ | ⟨g', cap', cur, he, hb, hheap, hle, hcm, hsz, htake⟩
  · cases he
  · injection he with he1 he2 he3
    injection he1 with he1
    injection he1 with he1
    subst he1 he3
    have hlt : g < w.heap.size := (Array.getElem?_eq_some_iff.1 hheap).1
    have hheap' : ∀ k, k < w.heap.size → (Sort.grow (Sort.putRow (Value.int .i64) (Sort.ahead w m) g 0 ys.toArray) os).heap[k]? = if g = k then (w.heap[k]?).map (Sort.onCells (Sort.putCells (Value.int .i64) 0 ys.toArray)) else w.heap[k]? := by
      intro k hk
      show ((w.heap.modify g (Sort.onCells (Sort.putCells (Value.int .i64) 0 ys.toArray))) ++ os)[k]? = _
      rw [Array.getElem?_append, if_pos (by rw [Array.size_modify]; exact hk), Array.getElem?_modify]
    have hg' : (Sort.grow (Sort.putRow (Value.int .i64) (Sort.ahead w m) g 0 ys.toArray) os).heap[g]? = some (.cells (Sort.putCells (Value.int .i64) 0 ys.toArray cur) 3 (0, 0)) := by
      rw [hheap' g hlt, if_pos rfl, hheap]
      rfl
    have hF : (ys.map (Value.int .i64)).length = xs.length := by rw [List.length_map, hs]
    refine ⟨⟨hok, ys.map (Value.int .i64), ⟨by rw [hF, hs]; show _ = xs.length * 1; omega, .inr ⟨g, cap, _, by rw [hs], hb, hg', by rw [hs]; exact hle, hcm, ?_, ?_⟩⟩, by rw [hF, hs]; show _ = xs.length * 1; omega, ?_⟩, ?_⟩
    · show (Array.mapIdx _ cur).size = _
      rw [Array.size_mapIdx]; exact hsz
    · rw [hs]
      apply List.ext_getElem
      · rw [List.length_take, Array.length_toList, hF]
        show min _ (Array.mapIdx _ cur).size = _
        rw [Array.size_mapIdx, hsz]
        show min (xs.length * 1) (cap * 1) = _
        omega
      · intro i h1 h2
        rw [List.getElem_take, Array.getElem_toList]
        rw [hF] at h2
        unfold Sort.putCells
        rw [Array.getElem_mapIdx, if_pos ⟨Nat.zero_le _, by simp; omega⟩, Nat.sub_zero, getElem!_pos _ _ (by simp; omega), List.getElem_map]
        simp
    · intro j p hp
      have hj : j < ys.length := (List.getElem?_eq_some_iff.1 hp).1
      show ((ys.map (Value.int .i64)).drop (j * 1)).take 1 = [Value.int .i64 p]
      rw [Nat.mul_one]
      rw [List.getElem?_eq_getElem hj] at hp
      rw [← Option.some.inj hp, List.drop_eq_getElem_cons (by rw [List.length_map]; exact hj), List.getElem_map]
      rfl
    · refine ⟨rfl, rfl, rfl, ?_, fun k hk hne => ?_⟩
      · show w.heap.size ≤ ((w.heap.modify g _) ++ os).size
        rw [Array.size_append, Array.size_modify]; omega
      · rw [hheap' k hk, if_neg (fun e => hne (by rw [e]))]
def sortI (xs : List Int) : List Int := xs.mergeSort fun x y => decide (x ≤ y)
theorem sortI_length (xs : List Int) : (sortI xs).length = xs.length := List.length_mergeSort xs
/-- slices.Sort at a row of ints. -/
theorem sortInt_calls (v : Value) (xs : List Int) (base : Nat) (ok : Nat → Prop) (w : World) (h : Kd.R (Kd.int .i64) 3 w base ok v xs) (hsm : xs.length ≤ 1099511627776) :
    Calls Try.prog 30 #[v] w fun e w' => e = .returned (.tuple #[]) ∧ Kd.R (Kd.int .i64) 3 w' base ok v (sortI xs) ∧ w.grownBy w' v.ownBlock := by
  obtain ⟨A, c, e⟩ := Kd.R_slice h
  subst e
  by_cases h0 : xs = []
  · subst h0
    refine (Try.slices_Sort_int_none A c w).mono ?_
    rintro e w' ⟨rfl, rfl⟩
    have e0 : sortI [] = [] := List.length_eq_zero_iff.1 (sortI_length [])
    rw [e0]
    exact ⟨rfl, h, ⟨rfl, rfl, rfl, Nat.le_refl _, fun _ _ _ => rfl⟩⟩
  · obtain ⟨g, cap, ef, _, hlt, _⟩ := Kd.R_form h (List.length_pos_iff.2 h0)
    injection ef with ef1 _ ef3
    subst ef1 ef3
    refine (Try.slices_Sort_int g 0 c xs w (rInt_holds h) hlt (by omega)).mono ?_
    rintro e w' ⟨rfl, n, os, rfl⟩
    have hp := rInt_put h n (sortI xs) os (sortI_length xs)
    exact ⟨rfl, hp.1, hp.2⟩
set_option maxRecDepth 100000 in
theorem Holding_calls (g : Nat) (A : Option Addr) (c : Nat) (l : List Ask) (w : World) (hg : w.cell? ⟨g, 0, none⟩ = some (.slice A l.length c)) (hC : Kd.C k61 w A l.length l) (hsm : l.length ≤ 1099511627776) :
    Calls Try.prog 15 #[.pointer (some ⟨g, 0, none⟩)] w fun e w' => ∃ v, e = .returned v ∧ Kd.R (Kd.int .i64) 3 w' w.heap.size (fun _ => True) v (sortI (idsK l (held l) l.length)) ∧ Below w.heap.size w w' := by
  have HC := Aside0.mk hC
  clear hC
  have hlt := cell_lt hg
  go_enter Try.func15, Try.ntmps15
  go_wp2_with fail
  refine (ids_holding w.heap.size g A c l (held l) _ (by rw [(below_alloc (Below.refl w.heap.size w) _).cell (p := ⟨g, 0, none⟩) hlt]; exact hg) (Kd.C_alloc HC.out _) hsm ?_).mono ?_
  · intro i w1 hi hb1
    have hb2 := below_alloc (Below.refl w.heap.size w) (.cells #[.pointer (some ⟨g, 0, none⟩)] 35)
    refine holding1_calls w.heap.size g i A c l w1 ?_ ?_ (Kd.C_below (Kd.C_alloc HC.out _) hb1) hi
    · rw [hb1.cell (p := ⟨w.heap.size, 0, none⟩) (alloc_lt' _ _)]
      exact blk_cell (blk_new w _) 0
    · rw [hb1.cell (p := ⟨g, 0, none⟩) (alloc_lt _ _ hlt), hb2.cell (p := ⟨g, 0, none⟩) hlt]
      exact hg
  · rintro e w1 ⟨v, rfl, ho1, hb1⟩
    have HO1 := Aside0.mk (Kd.R_lower ho1 (Nat.le_of_lt (alloc_lt' w _)))
    have HB1 := Aside0.mk (below_step (below_alloc (Below.refl w.heap.size w) _) hb1)
    have HL := Aside0.mk (idsK_length l (held l) l.length)
    clear ho1 hb1
    go_wp2_with fail
    refine (sortInt_calls v _ _ _ w1 HO1.out (by have := HL.out; omega)).mono ?_
    rintro e w2 ⟨rfl, ho2, hg2⟩
    have HO2 := Aside0.mk ho2
    have HB2 := Aside0.mk (HB1.out.grown hg2 HB1.out.size (fun k hk => Kd.R_base HO1.out k hk))
    clear ho2 hg2
    go_wp2_with fail
    go_ret
    exact ⟨_, rfl, HO2.out, HB2.out⟩
end Go.Proofs.Ytbpadimcnamdpaa.PK
/- lock: slices.Delete of one ask. -/
namespace Go.Proofs.Ytbpadimcnamdpaa.PK
open Go.RowKit Go.Proofs.YtbpadimcnamdpaaW.PrintWords Go.Proofs.YtbpadimcnamdpaaW.PrintLast Go.Proofs.YtbpadimcnamdpaaW.PrintMore
theorem R_spare {α : Type} {d : Kd α} {e : Nat} {W : World} {base : Nat} {ok : Nat → Prop} {g n c : Nat} {xs : List α} (h : d.R e W base ok (.slice (some ⟨g, 0, none⟩) n c) xs) (o : Nat) (news : List Value) (ho : n * d.sz ≤ o) (hfit : o + news.length ≤ c * d.sz) :
    d.R e (W.setCells g o news) base ok (.slice (some ⟨g, 0, none⟩) n c) xs ∧ W.grownBy (W.setCells g o news) (some g) := by
  obtain ⟨hok, inner, hown, hr⟩ := h
  have hn := hown.2
  rcases hown.2 with ⟨hv, _⟩ | ⟨g', cap', cur, hv, hb, hh, hle, hcm, hcs, htake⟩
  · cases hv
  injection hv with ha hn' hc
  injection ha with ha
  injection ha with hg
  subst hg; subst hc
  obtain ⟨cur', h3, h4, h5⟩ := setCells_row news o W cur hh (by rw [hcs]; exact hfit)
  obtain ⟨s1, s2, s3, s4⟩ := setCells_same g news o W
  have hfar : ∀ k', k' ≠ g → (W.setCells g o news).heap[k']? = W.heap[k']? := fun k' hk' => setCells_far news _ k' hk'
  refine ⟨⟨hok, inner, ⟨hown.1, .inr ⟨g, c, cur', by rw [hn'], hb, h3, hle, hcm, by rw [h4, hcs], ?_⟩⟩, ?_⟩, ⟨s1, s2, s3, by rw [s4]; exact Nat.le_refl _, fun k' _ hk' => hfar k' (fun he => hk' (by rw [he]))⟩⟩
  · have h7 : cur.toList.length = c * d.sz := by rw [Array.length_toList]; exact hcs
    have h8 : xs.length * d.sz ≤ o := by rw [← hn']; exact ho
    have h9 : xs.length * d.sz ≤ (cur.toList.take o).length := by rw [List.length_take, h7]; omega
    rw [h5, List.append_assoc, List.take_append_of_le_length h9, List.take_take, Nat.min_eq_left h8]
    exact htake
  · have hmv : ∀ p q, d.M W base (fun k' => ok k' ∧ some k' ≠ (Value.slice (some ⟨g, 0, none⟩) n c).ownBlock) p q → d.M (W.setCells g o news) base (fun k' => ok k' ∧ some k' ≠ (Value.slice (some ⟨g, 0, none⟩) n c).ownBlock) p q := fun p q hp =>
      d.M_move (fun k' hk' => hfar k' (fun he => hk'.2 (by simp [Value.ownBlock, he]))) hp
    exact hr.imp_ hmv
theorem R_block {α : Type} {d : Kd α} {e : Nat} {W : World} {base : Nat} {ok : Nat → Prop} {g n c : Nat} {xs : List α} (h : d.R e W base ok (.slice (some ⟨g, 0, none⟩) n c) xs) : c ≤ 9223372036854775807 ∧ ∃ cur, W.heap[g]? = some (.cells cur e (0, 0)) ∧ cur.size = c * d.sz := by
  obtain ⟨hok, inner, hown, hr⟩ := h
  rcases hown.2 with ⟨hv, _⟩ | ⟨g', cap', cur, hv, hb, hh, hle, hcm, hcs, htake⟩
  · cases hv
  injection hv with ha hn' hc
  injection ha with ha
  injection ha with hg
  subst hg; subst hc
  unfold maxLen at hcm
  exact ⟨by omega, cur, hh, hcs⟩
def zAsk : List Value := [.slice none 0 0, .int .i64 0, .bool false]
theorem run_clear_ask (W : World) (g k c2 : Nat) (cur : Array Value) (ty : TypeId) (hh : W.heap[g]? = some (.cells cur 61 (0, 0))) (hfit : k * 3 + 3 ≤ cur.size) :
    (Builtin.clear_ #[50] ty #[.slice (some ⟨g, k * 3, none⟩) 1 c2]).run Try.prog W = .ok (.tuple #[]) (W.setCells g (k * 3) zAsk) := by
  have hst := run_storeCells_cells (P := Try.prog) g (k * 3) zAsk 0 W (fun j hj => by rw [cell_of_row W g _ cur _ (0, 0) hh]; have : j < 3 := hj; simp; omega) (fun j _ => blk_frozen hh _) (by intro v hv; simp [zAsk] at hv; rcases hv with h | h | h <;> rw [h] <;> rfl)
  simp only [Nat.add_zero] at hst
  have hz : (zeroValue 61).run Try.prog W = .ok (.agg #[.slice none 0 0, .int .i64 0, .bool false]) W := by first | exact Try.zeroValue61 W | exact Try.zeroValue61
  have hzc : (Builtin.zeroCells (Value.agg #[.slice none 0 0, .int .i64 0, .bool false]).cells 1).toList = zAsk := by kernel_rfl
  simp [Builtin.clear_, run_underlying Try.underlying50, hz, hzc, hst]
theorem addr_if (g c k : Nat) : (if c = k + 1 then some (⟨g, 0, none⟩ : Addr) else some ⟨g, (k + 1) * 3, none⟩) = if c = k + 1 then some ⟨g, 0, none⟩ else (some (⟨g, 0, none⟩ : Addr)).map (·.add ((k + 1) * k61.sz)) := by
  split
  · rfl
  · rw [Option.map_some, add_at, Nat.zero_add]
    rfl
set_option maxHeartbeats 2000000 in
set_option maxRecDepth 100000 in
theorem Delete_calls (g n c k base : Nat) (xs : List Ask) (ok : Nat → Prop) (w : World) (h : Kd.R k61 61 w base ok (.slice (some ⟨g, 0, none⟩) n c) xs) (hk : k < n) :
    Calls Try.prog 36 #[.slice (some ⟨g, 0, none⟩) n c, .int .i64 k, .int .i64 ((k : Int) + 1)] w fun e w' => e = .returned (.slice (some ⟨g, 0, none⟩) (n - 1) c) ∧ Kd.R k61 61 w' base ok (.slice (some ⟨g, 0, none⟩) (n - 1) c) (xs.eraseIdx k) ∧ w.grownBy w' (some g) := by
  obtain ⟨m, rfl⟩ : ∃ m, n = m + 1 := ⟨n - 1, by omega⟩
  rw [Nat.add_sub_cancel]
  have hnc : m + 1 ≤ c := (Kd.R_reads' h).2.1
  have hmax : m + 1 ≤ 9223372036854775807 := by have h2 := Kd.R_reads' h; rw [h2.1]; exact Kd.C_max h2.2.2
  have hcm : c ≤ 9223372036854775807 := (R_block h).1
  have hbase : base ≤ w.heap.size := by
    have h1 := Kd.R_base h g (by simp [Value.ownBlock])
    have h2 := Kd.R_lt h g (by simp [Value.ownBlock])
    omega
  have H := Aside0.mk h
  have hkc : k ≤ c := by omega
  have hk1n : k + 1 ≤ m + 1 := by omega
  have hk1c : k + 1 ≤ c := by omega
  have hi1 : (0 : Int) ≤ (k : Int) + 1 := by omega
  have hi2 : (k : Int) + 1 ≤ ((m : Int) + 1) := by omega
  clear h
  go_enter Try.func36, Try.ntmps36
  go_wp2_with fail
  go_region_law (refine Kd.R_delete_step k61 (w0 := w) base (by rfl) (.tmp 22) (.tmp 25) 50 61 rfl Try.underlying50 (by kernel_rfl) (g := g) (n := m + 1) (c := c) (k := k) (c2 := c - (k + 1)) (by first | rfl | simp [Act.eval, Act.put]) (by first | rfl | simp [Act.eval, Act.put]) ?qA ?qm (Kd.R_drew H.out) hk (below_drew (Below.refl _ _)) hbase ?_; (case qA => exact addr_if g c k); (case qm => first | rfl | omega); intro w5 ho5 hb5 hg5; have HO5 := Aside0.mk ho5; have HG5 := Aside0.mk hg5; clear ho5 hb5 hg5)
  all_goals
    obtain ⟨_, cur5, hh5, hs5⟩ := R_block HO5.out
    have hcm2 : ¬ c = m := by omega
    have hcl : ∀ ty, (Builtin.clear_ #[50] ty #[.slice (some ⟨g, m * 3, none⟩) 1 (c - m)]).run Try.prog w5 = .ok (.tuple #[]) (w5.setCells g (m * 3) zAsk) := fun ty => run_clear_ask w5 g m (c - m) cur5 ty hh5 (by rw [hs5]; show m * 3 + 3 ≤ c * 3; omega)
    have HX := Aside0.mk (R_spare HO5.out (m * 3) zAsk (Nat.le_refl _) (by show m * 3 + 3 ≤ c * 3; omega))
    clear hh5 hs5
    have hmm : m ≤ m + 1 := by omega
    have hx1 := HX.out.1
    rw [Nat.add_sub_cancel] at hx1
    have HX1 := Aside0.mk hx1
    have HX2 := Aside0.mk HX.out.2
    clear hx1 HX HO5
    go_wp2
    all_goals
      go_ret
      subst_vars
      refine ⟨rfl, HX1.out, ?_⟩
      have h1 := HG5.out
      have h2 := HX2.out
      exact ⟨h2.os.trans h1.os, h2.tape.trans h1.tape, h2.output.trans h1.output, Nat.le_trans h1.size h2.size, fun q hq hn => (h2.block q (Nat.lt_of_lt_of_le hq h1.size) hn).trans (h1.block q hq hn)⟩
end Go.Proofs.Ytbpadimcnamdpaa.PK
/- lock: Free. -/
namespace Go.Proofs.Ytbpadimcnamdpaa.PK
open Go.RowKit Go.Proofs.YtbpadimcnamdpaaW.PrintWords Go.Proofs.YtbpadimcnamdpaaW.PrintLast Go.Proofs.YtbpadimcnamdpaaW.PrintMore
/-- What Free answers, and the asks behind it. -/
def freeL : List Ask → List Int → Int × List Ask
  | l, [] => (0, l)
  | l, id :: r => if findI l id < 0 then (8, l) else freeL (l.eraseIdx (findI l id).toNat) r
set_option maxHeartbeats 2000000 in
set_option maxRecDepth 100000 in
theorem free_calls (base g : Nat) (S : Nat → Prop) (l : List Ask) (A : Option Addr) (c : Nat) (ids : List Int) (w : World) (hT : TabAt w base S g l) (hI : Kd.C (Kd.int .i64) w A ids.length ids) (hfar : ∀ ad, A = some ad → ¬ S ad.block) (hsm : l.length ≤ 1073741824) :
    Calls Try.prog 19 #[.pointer (some ⟨g, 0, none⟩), .slice A ids.length c] w fun e w' => e = .returned (.int .i64 (freeL l ids).1) ∧ TabAt w' base (fun k => S k ∨ w.heap.size ≤ k) g (freeL l ids).2 ∧ Kp (fun k => S k ∨ w.heap.size ≤ k) w w' := by
  have HT := Aside0.mk (hT.mono (S' := fun k => S k ∨ w.heap.size ≤ k) (fun _ h => .inl h))
  have HI := Aside0.mk hI
  have HF := Aside0.mk hfar
  have hmax := Kd.C_max hI
  clear hT hI hfar
  obtain ⟨r1, r2, hr⟩ : ∃ r1 r2, (r1, r2) = freeL l ids := ⟨_, _, rfl⟩
  rw [← hr]
  dsimp only
  have HR := Aside0.mk hr
  clear hr
  go_enter Try.func19, Try.ntmps19
  go_wp2
  go_loopg [12] (ids.length + 1) (fun kq v12 w' => ∃ (k : Nat) (l1 : List Ask), v12 = .int .i64 k ∧ Aside0 (k + kq = ids.length + 1) ∧ k ≤ ids.length ∧ l1.length ≤ 1073741824 ∧ Aside0 ((r1, r2) = freeL l1 (ids.drop k)) ∧ Aside0 (TabAt w' base (fun k => S k ∨ w.heap.size ≤ k) g l1) ∧ Aside0 (Kp (fun k => S k ∨ w.heap.size ≤ k) w w'))
  case atStart => exact ⟨0, l, rfl, ⟨by omega⟩, Nat.zero_le _, hsm, HR, HT, ⟨Kp.refl _ _⟩⟩
  case round =>
    clear HT HR hsm
    obtain ⟨k, l1, rfl, HK, hk, hsm, HR, HT, HP⟩ := hrel
    cases gk with
    | zero => exact absurd HK.out (by omega)
    | succ k1 =>
      by_cases hkl : k < ids.length
      · obtain ⟨ad, e0, hx⟩ := Kd.at_int HI.out (k : Int) (by omega) (by omega)
        cases e0
        simp only [Int.toNat_natCast] at hx
        have hxlt : ad.block < w.heap.size := by
          unfold World.cell? at hx
          by_cases hh : (ad.add k).block < w.heap.size
          · rw [add_block] at hh; exact hh
          · rw [Array.getElem?_eq_none (by simpa using hh)] at hx; simp at hx
        have hx2 : wr.cell? (ad.add k) = some (.int .i64 (rd ids (k : Int))) := HP.out.cell hx (by rw [add_block]; rintro (h | h); exact HF.out ad rfl h; omega)
        have hdr : ids.drop k = rd ids (k : Int) :: ids.drop (k + 1) := by
          rw [List.drop_eq_getElem_cons hkl]
          simp [rd, List.getD, hkl]
        rw [hdr] at HR
        clear hx hdr hxlt
        generalize rd ids (k : Int) = id at hx2 HR
        obtain ⟨r, hr⟩ : ∃ r, r = findI l1 id := ⟨_, rfl⟩
        have HRI := Aside0.mk hr
        have hlt := hr ▸ findI_lt l1 id
        clear hr
        obtain ⟨A0, c0, hblk, hrow⟩ := HT.out.row
        have hcell : wr.cell? ⟨g, 0, none⟩ = some (.slice A0 l1.length c0) := (blk_cell hblk 0).trans rfl
        have HBLK := Aside0.mk hblk
        have HROW := Aside0.mk hrow
        have HC := Aside0.mk (Kd.R_reads' hrow).2.2
        clear hblk hrow
        go_wp2_with fail
        refine (find_calls g id r A0 c0 l1 wr hcell HC.out HRI).mono ?_
        rintro e w1 ⟨rfl, hb1⟩
        have hcell1 := (hb1.cell (p := ⟨g, 0, none⟩) HT.out.lt).trans hcell
        replace HBLK := Aside0.mk ((hb1.block g HT.out.lt).trans HBLK.out)
        replace HROW := Aside0.mk (Kd.R_below HROW.out hb1)
        replace HT := Aside0.mk (HT.out.below hb1)
        replace HP := Aside0.mk (HP.out.trans (Kp.of_below hb1))
        clear hb1 hcell hx2 HC
        rcases hlt with hneg | ⟨i, rfl, hil⟩
        · have HA : Aside0 ((r1, r2) = (8, l1)) := ⟨by rw [HR.out]; unfold freeL; rw [if_pos (by rw [← HRI.out]; exact hneg)]⟩
          go_wp2
          go_ret
          have h1 := congrArg Prod.fst HA.out
          have h2 := congrArg Prod.snd HA.out
          dsimp only at h1 h2
          exact ⟨by rw [h1]; rfl, by rw [h2]; exact HT.out, HP.out⟩
        · have HA : Aside0 ((r1, r2) = freeL (l1.eraseIdx i) (ids.drop (k + 1))) := ⟨by
            rw [HR.out]
            conv => lhs; unfold freeL
            rw [if_neg (by rw [← HRI.out]; omega), ← HRI.out, Int.toNat_natCast]⟩
          clear HR HRI
          obtain ⟨gr, _, ef, _, _, _⟩ := Kd.R_form HROW.out (by omega)
          injection ef with ef1 ef2 ef3
          subst ef1
          clear ef2 ef3
          have hgne : gr ≠ g := (HROW.out.1 gr (by simp [Value.ownBlock])).2
          have HGS := Aside0.mk (HROW.out.1 gr (by simp [Value.ownBlock])).1
          obtain ⟨n1, hn1⟩ : ∃ n1, n1 = l1.length := ⟨_, rfl⟩
          have HN1 := Aside0.mk hn1
          have hi9 : Aside0 ((i : Int) + 1 ≤ 9223372036854775807) := ⟨by omega⟩
          have hel : (l1.eraseIdx i).length = n1 - 1 := by rw [List.length_eraseIdx_of_lt hil, hn1]
          have HEL := Aside0.mk hel
          rw [← hn1] at hcell1 HBLK HROW hil hsm
          clear hn1 hel
          go_wp2_with fail
          refine (Delete_calls gr n1 c0 i base l1 _ w1 HROW.out hil).mono ?_
          rintro e w2 ⟨rfl, ho2, hg2⟩
          have hblk2 := (hg2.block g HT.out.lt (fun e => hgne (Option.some.inj e).symm)).trans HBLK.out
          have hc2 : w2.cell? ⟨g, 0, none⟩ = some (.slice (some ⟨gr, 0, none⟩) n1 c0) := blk_cell hblk2 0
          have hf2 : w2.frozen? ⟨g, 0, none⟩ = false := blk_frozen hblk2 0
          have HBK2 := Aside0.mk hblk2
          have HO2 := Aside0.mk ho2
          have HG2 := Aside0.mk hg2
          clear hblk2 ho2 hg2 hcell1
          go_wp2
          have HT3 : Aside0 (TabAt (w2.setCell ⟨g, 0, none⟩ (.slice (some ⟨gr, 0, none⟩) (n1 - 1) c0)) base (fun k => S k ∨ w.heap.size ≤ k) g (l1.eraseIdx i)) := ⟨⟨HT.out.own, HT.out.ge, some ⟨gr, 0, none⟩, c0, by rw [HEL.out]; exact blk_put HBK2.out 0 _ rfl, by rw [HEL.out]; exact Kd.R_far HO2.out (fun k hk => hk.2) _⟩⟩
          have HP3 := Aside0.mk ((HP.out.trans (Kp.of_grown HG2.out (fun k hk => by rw [← Option.some.inj hk]; exact HGS.out))).trans (Kp.of_set (j := 0) (v := .slice (some ⟨gr, 0, none⟩) (n1 - 1) c0) HT.out.own))
          go_roundg k1
          case measure => have := HK.out; omega
          case rel => exact ⟨k + 1, l1.eraseIdx i, by go_num, ⟨by have := HK.out; omega⟩, by omega, by rw [HEL.out]; omega, HA, HT3, HP3⟩
      · have HA : Aside0 ((r1, r2) = (0, l1)) := ⟨by rw [HR.out, List.drop_eq_nil_of_le (by omega)]; rfl⟩
        go_wp2
        go_ret
        have h1 := congrArg Prod.fst HA.out
        have h2 := congrArg Prod.snd HA.out
        dsimp only at h1 h2
        exact ⟨by rw [h1]; rfl, by rw [h2]; exact HT.out, HP.out⟩
end Go.Proofs.Ytbpadimcnamdpaa.PK
/- lock: slices.Clone of wants; Wants. -/
namespace Go.Proofs.Ytbpadimcnamdpaa.PK
open Go.RowKit Go.Proofs.YtbpadimcnamdpaaW.PrintWords Go.Proofs.YtbpadimcnamdpaaW.PrintLast Go.Proofs.YtbpadimcnamdpaaW.PrintMore
set_option maxHeartbeats 1000000 in
set_option maxRecDepth 100000 in
theorem clone_calls (A : Option Addr) (c : Nat) (xs : List W) (w : World) (hC : Kd.C k31 w A xs.length xs) (hsm : xs.length ≤ 1073741824) :
    Calls Try.prog 32 #[.slice A xs.length c] w fun e w' => ∃ v, e = .returned v ∧ Kd.R k31 31 w' w.heap.size (fun _ => True) v xs ∧ Below w.heap.size w w' := by
  have q22 : ∀ (w : World) (a : Option Addr) (n c n' c' : Nat), (binOp .eql 22 (.slice a n c) (.slice none n' c')).run Try.prog w = .ok (.bool a.isNone) w := fun w a n c n' c' => Go.Lib.run_eql_slice_nil w _ _ a n c n' c' Try.underlying22
  cases A with
  | none =>
    have h0 : xs = [] := by
      by_cases h : 0 < xs.length
      · obtain ⟨a, ha, _⟩ := hC.2.2 h
        cases ha
      · exact List.length_eq_zero_iff.1 (by omega)
    subst h0
    clear hC
    go_enter Try.func32, Try.ntmps32
    go_wp2
    go_ret
    exact ⟨_, rfl, Kd.R_nil _ _ _ _ _, Below.refl _ _⟩
  | some ad =>
    have HC := Aside0.mk hC
    clear hC
    obtain ⟨n, hn⟩ : ∃ n, n = xs.length := ⟨_, rfl⟩
    have HN := Aside0.mk hn
    rw [← hn]
    rw [← hn] at HC hsm
    clear hn
    go_enter Try.func32, Try.ntmps32
    go_wp2_with (first | ((with_reducible refine gate_builtin (b := .append) (xs := #[.tmp 5, .tmp 6]) rfl ?_); at_builtin; refine Kd.R_append_rows k31 (w0 := w) w.heap.size rfl (.tmp 5) (.tmp 6) 22 31 (.agg #[(.string ⟨#[]⟩), (.bool false)]) 24 rfl Try.underlying22 info31 rfl (by decide) (by omega) (.slice (some ⟨w.heap.size, 0, none⟩) 0 0) [] xs (some ad) n c (fun _ => True) (fun _ => False) rfl rfl (R_room k31 31 _ w.heap.size w.heap.size 0 #[] (blk_new w _) (Nat.le_refl _) (Nat.zero_le _) rfl) (Kd.C_alloc HC.out _) (fun x cs h => KM _ _ _ x cs h) (fun _ hk => hk.elim) (fun _ _ => trivial) (below_alloc (Below.refl _ _) _) (below_alloc (Below.refl _ _) _).size (by simp; omega) ?_; intro v1 w6 ho1 hb1 hg_ hat_; clear hg_ hat_; have HO1 := Aside0.mk ho1; have HB1 := Aside0.mk hb1; clear ho1 hb1))
    go_ret
    exact ⟨_, rfl, by have := HO1.out; rwa [List.nil_append] at this, HB1.out⟩
/-- What an ask asks for. -/
def wantsOf (l : List Ask) (id : Int) : List W := if findI l id < 0 then [] else (rd_T61 l (findI l id)).f0.f0
set_option maxHeartbeats 2000000 in
set_option maxRecDepth 100000 in
theorem Wants_calls (g : Nat) (id : Int) (A : Option Addr) (c : Nat) (l : List Ask) (w : World) (hg : w.cell? ⟨g, 0, none⟩ = some (.slice A l.length c)) (hC : Kd.C k61 w A l.length l) (hsm : ∀ x ∈ l, x.f0.f0.length ≤ 1073741824) :
    Calls Try.prog 16 #[.pointer (some ⟨g, 0, none⟩), .int .i64 id] w fun e w' => ∃ v, e = .returned v ∧ Kd.R k31 31 w' w.heap.size (fun _ => True) v (wantsOf l id) ∧ Below w.heap.size w w' := by
  have HC := Aside0.mk hC
  have hmax := Kd.C_max hC
  have HSM := Aside0.mk hsm
  clear hC hsm
  have hlt := cell_lt hg
  obtain ⟨r, hr⟩ : ∃ r, r = findI l id := ⟨_, rfl⟩
  have HR := Aside0.mk hr
  have hrl := hr ▸ findI_lt l id
  clear hr
  obtain ⟨u, hu⟩ : ∃ u, u = wantsOf l id := ⟨_, rfl⟩
  rw [← hu]
  have HW := Aside0.mk hu
  clear hu
  go_enter Try.func16, Try.ntmps16
  go_wp2_with fail
  refine (find_calls g id r A c l w hg HC.out HR).mono ?_
  rintro e w1 ⟨rfl, hb1⟩
  have hcell1 := (hb1.cell (p := ⟨g, 0, none⟩) hlt).trans hg
  have hlt1 := Nat.lt_of_lt_of_le hlt hb1.size
  have HC1 := Aside0.mk (Kd.C_below HC.out hb1)
  have HB1 := Aside0.mk hb1
  clear hb1
  rcases hrl with hneg | ⟨i, rfl, hil⟩
  · go_wp2
    go_ret
    refine ⟨_, rfl, ?_, HB1.out⟩
    have e0 : u = [] := by rw [HW.out]; unfold wantsOf; rw [← HR.out, if_pos hneg]
    rw [e0]
    exact Kd.R_nil _ _ _ _ _
  · have HU : Aside0 (u = (rd_T61 l (i : Int)).f0.f0) := ⟨by rw [HW.out]; unfold wantsOf; rw [← HR.out, if_neg (by omega)]⟩
    have HUL : Aside0 (u.length ≤ 1073741824) := ⟨by rw [HU.out, rd61_at l i hil]; exact HSM.out _ (List.getElem_mem hil)⟩
    have hilz : (i : Int) < (l.length : Int) := by omega
    have hi0 : (0 : Int) ≤ (i : Int) := by omega
    go_wp2_with fail
    go_region_law (first | (go_simp; go_at_call 31; refine (find_calls g id (i : Int) A c l w1.drew hcell1 (Kd.C_drew HC1.out) HR).mono ?_; rintro e w5 ⟨rfl, hb5⟩; have HB5 := Aside0.mk hb5; have hcell5 := (hb5.cell (p := ⟨g, 0, none⟩) hlt1).trans hcell1; obtain ⟨ad2, A2, c2, e2, hz0, hz1, hz2, hl2, hi2⟩ := at_T61 (Kd.C_below (Kd.C_drew HC1.out) hb5) (i : Int) (by omega) (by omega); cases e2; simp only [Int.toNat_natCast] at hz0 hz1 hz2; rw [← HU.out] at hz0 hl2 hi2; have HI2 := Aside0.mk hi2; clear hb5 hl2 hi2 hz1 hz2) | (go_simp; go_at_call 32; refine (clone_calls A2 c2 u w5 HI2.out HUL.out).mono ?_; rintro e w6 ⟨v6, rfl, ho6, hb6⟩; have HO6 := Aside0.mk ho6; have HB6 := Aside0.mk hb6; clear ho6 hb6))
    all_goals
      go_wp2
      go_ret
      have h5 := below_step (below_drew HB1.out) HB5.out
      exact ⟨_, rfl, Kd.R_lower HO6.out h5.size, below_step h5 HB6.out⟩
end Go.Proofs.Ytbpadimcnamdpaa.PK
/- LockUnions, walked. -/
namespace Go.Proofs.Ytbpadimcnamdpaa.PK
open Go.RowKit Go.Proofs.YtbpadimcnamdpaaW.PrintWords Go.Proofs.YtbpadimcnamdpaaW.PrintLast Go.Proofs.YtbpadimcnamdpaaW.PrintMore
/-- A block that holds a row's cells is read as that row. -/
theorem C_of_block {α : Type} {d : Kd α} {W1 : World} {b t : Nat} {cs : Array Value} {xs : List α} (hb : W1.heap[b]? = some (.cells cs t (0, 0))) (hr : Reps (d.K W1) d.sz xs cs.toList) (hm : xs.length ≤ 9223372036854775807) : d.C W1 (some ⟨b, 0, none⟩) xs.length xs := by
  refine ⟨rfl, hm, fun _ => ⟨⟨b, 0, none⟩, rfl, fun j p hj => ?_⟩⟩
  have h1 := hr.2 j p hj
  refine ⟨_, d.K_len h1, h1, fun i u hu => ?_⟩
  rw [List.getElem?_take] at hu
  split at hu
  · rw [List.getElem?_drop, Array.getElem?_toList] at hu
    rw [add_plain]
    exact (blk_cell hb _).trans hu
  · cases hu
theorem union_same (a b : List W) : uniL (sortL (b ++ a)) = uniL (sortL (a ++ b)) :=
  ((uni_US (b ++ a)).perm (fun x => by simp only [List.mem_append]; exact Or.comm)).uniq (uni_US (a ++ b))
theorem sortL_nil : sortL [] = [] := by
  unfold sortL Sort.insertionSort
  rw [Sort.insOuter, if_neg (by simp)]
theorem mid_one (l : List W) (i : Nat) (h : i < l.length) : (l.take (i + 1)).drop i = [l[i]] := by
  rw [List.take_succ_eq_append_getElem h]
  exact List.drop_left' (by rw [List.length_take]; omega)
theorem cell_lt' {w : World} {a : Addr} {v : Value} (hc : w.cell? a = some v) : a.block < w.heap.size := by
  unfold World.cell? at hc
  by_cases hh : a.block < w.heap.size
  · exact hh
  · rw [Array.getElem?_eq_none (by simpa using hh)] at hc; simp at hc
theorem below_cell {w w5 : World} {a : Addr} {v : Value} (hb : Below w.heap.size w w5) (hc : w.cell? a = some v) : w5.cell? a = some v := (hb.cell (cell_lt' hc)).trans hc
set_option maxHeartbeats 4000000 in
set_option maxRecDepth 100000 in
theorem LockUnions_calls (A B : Option Addr) (ca cb : Nat) (a b : List W) (w : World) (hA : Kd.C k31 w A a.length a) (hB : Kd.C k31 w B b.length b) (hca : a.length ≤ ca) (hcb : b.length ≤ cb) :
    Calls Try.prog 3 #[.slice A a.length ca, .slice B b.length cb] w fun e w' => e = .returned (.bool true) ∧ Below w.heap.size w w' := by
  have HA := Aside0.mk hA
  have HB := Aside0.mk hB
  have hma := Kd.C_max hA
  have hmb := Kd.C_max hB
  clear hA hB
  obtain ⟨gr, ⟨K, hK⟩, hgr⟩ := great_at [⟨0, 0, [], a⟩, ⟨0, 0, [], b⟩]
  have HK := Aside0.mk (hK K (Nat.le_refl _))
  clear hK
  go_enter Try.func3, Try.ntmps3
  go_wp2_with fail
  refine (affluxlaw22_great.calls K (some ⟨w.heap.size, 0, none⟩) 2 [⟨0, 0, [], a⟩, ⟨0, 0, [], b⟩] gr _ (C_of_block (blk_new w _) (Reps.c4 (k26_mk _ ⟨0, 0, [], a⟩ (Nat.le_refl _) (Kd.C_nil _ _) hca (Kd.C_alloc HA.out _)) (Reps.c4 (k26_mk _ ⟨0, 0, [], b⟩ (Nat.le_refl _) (Kd.C_nil _ _) hcb (Kd.C_alloc HB.out _)) (Reps.none _ _))) (by simp)) (Nat.le_refl _) HK.out).mono ?_
  rintro e w1 ⟨rfl, ⟨n1, rfl⟩⟩
  have HBL := Aside0.mk (pw_below_drewN (below_alloc (Below.refl w.heap.size w) (.cells #[.int .i64 0, .int .i64 0, .slice none 0 0, .slice A a.length ca, .int .i64 0, .int .i64 0, .slice none 0 0, .slice B b.length cb] 26)) n1)
  generalize (w.alloc (.cells #[.int .i64 0, .int .i64 0, .slice none 0 0, .slice A a.length ca, .int .i64 0, .int .i64 0, .slice none 0 0, .slice B b.length cb] 26)).drewN n1 = w1 at HBL ⊢
  cases gr with
  | true =>
    clear hgr
    go_wp2_with fail
    refine (awake_calls _).mono ?_
    rintro e w2 ⟨rfl, hb2⟩
    replace HBL := Aside0.mk (below_step HBL.out hb2)
    clear hb2
    go_wp2_with fail
    go_ret
    exact ⟨rfl, HBL.out⟩
  | false =>
    have hla : a.length ≤ 10 := ((hgr rfl).2 0 (by simp)).1
    have hlb : b.length ≤ 10 := ((hgr rfl).2 1 (by simp)).1
    clear hgr
    go_wp2_with fail
    go_loopg [5] (a.length + 1) (fun kq v5 w' => ∃ i : Nat, v5 = .int .i64 i ∧ Aside0 (i + kq = a.length + 1) ∧ i ≤ a.length ∧ Aside0 (Below w.heap.size w w'))
    case atStart => exact ⟨0, rfl, ⟨by omega⟩, Nat.zero_le _, HBL⟩
    case round =>
      clear HBL
      obtain ⟨i, rfl, HQ, hi, HBL⟩ := hrel
      have hgo : ∀ w2 : World, Below w.heap.size w w2 → True := fun _ _ => trivial
      clear hgo
      cases gk with
      | zero => exact absurd HQ.out (by omega)
      | succ k1 =>
        by_cases hin : i < a.length ∧ i < b.length
        · obtain ⟨hia, hib⟩ := hin
          obtain ⟨x, hx⟩ : ∃ x, x = a[i] := ⟨_, rfl⟩
          obtain ⟨y, hy⟩ : ∃ y, y = b[i] := ⟨_, rfl⟩
          obtain ⟨i0, hi0, hzz⟩ := Option.map_eq_some_iff.1 info31
          simp only [Prod.mk.injEq] at hzz
          have kca := cut_mid (P := Try.prog) 22 31 .i64 .i64 Try.underlying22 hi0 2 hzz.2.1 A a.length ca (i : Int) ((i : Int) + 1) (by omega) (by omega) (by omega) hca
          have kcb := cut_mid (P := Try.prog) 22 31 .i64 .i64 Try.underlying22 hi0 2 hzz.2.1 B b.length cb (i : Int) ((i : Int) + 1) (by omega) (by omega) (by omega) hcb
          have e1 : ((i : Int) + 1).toNat = i + 1 := by omega
          rw [e1, Int.toNat_natCast, show i + 1 - i = 1 by omega] at kca kcb
          have hca1 : Kd.C k31 w (if ca = i then A else A.map (·.add (i * 2))) 1 [x] := by
            have := Kd.C_mid (lo := i) (hi := i + 1) HA.out (by omega) (by omega) hca
            have e : (a.take (i + 1)).drop i = [x] := by rw [hx]; exact mid_one a i hia
            rw [e] at this; exact this
          have hcb1 : Kd.C k31 w (if cb = i then B else B.map (·.add (i * 2))) 1 [y] := by
            have := Kd.C_mid (lo := i) (hi := i + 1) HB.out (by omega) (by omega) hcb
            have e : (b.take (i + 1)).drop i = [y] := by rw [hy]; exact mid_one b i hib
            rw [e] at this; exact this
          generalize (if ca = i then A else A.map (·.add (i * 2))) = A1 at kca hca1
          generalize (if cb = i then B else B.map (·.add (i * 2))) = B1 at kcb hcb1
          obtain ⟨adA, eA, hxa0, hxa1⟩ := at_T31 (Kd.C_below HA.out HBL.out) (i : Int) (by omega) (by omega)
          obtain ⟨adB, eB, hxb0, hxb1⟩ := at_T31 (Kd.C_below HB.out HBL.out) (i : Int) (by omega) (by omega)
          cases eA
          cases eB
          rw [rd31_at a i hia, ← hx] at hxa0 hxa1
          rw [rd31_at b i hib, ← hy] at hxb0 hxb1
          simp only [Int.toNat_natCast] at hxa0 hxa1 hxb0 hxb1
          clear hzz hi0 i0 hx hy e1
          obtain ⟨K2, hK2⟩ := clash_one x y
          have HK2 := Aside0.mk (hK2 K2 (Nat.le_refl _))
          have HCF := Aside0.mk (clash1_f x y)
          have HCA1 := Aside0.mk hca1
          have HCB1 := Aside0.mk hcb1
          clear hK2 hca1 hcb1
          generalize clash1 x y = q at HK2 HCF
          have ewi : IntKind.i64.wrap ((i : Int) + 1) = (i : Int) + 1 := by rw [IntKind.wrap_i64]; omega
          have hcai : 1 ≤ ca - i := by omega
          have hcbi : 1 ≤ cb - i := by omega
          have HF : Aside0 (∀ w5, Below wr.heap.size wr w5 → w5.cell? (adA.add (i * 2)) = some (.string x.f0) ∧ w5.cell? ⟨(adA.add (i * 2)).block, (adA.add (i * 2)).off + 1, none⟩ = some (.bool x.f1) ∧ w5.cell? (adB.add (i * 2)) = some (.string y.f0) ∧ w5.cell? ⟨(adB.add (i * 2)).block, (adB.add (i * 2)).off + 1, none⟩ = some (.bool y.f1)) := ⟨fun w5 hb => ⟨below_cell hb hxa0, below_cell hb hxa1, below_cell hb hxb0, below_cell hb hxb1⟩⟩
          go_wp2_with fail
          have HB0 : Aside0 (Below wr.heap.size wr wr.drew) := ⟨below_drew (Below.refl _ _)⟩
          go_region_law (first | (go_simp; go_at_call 8; refine (lock_Clash.calls x.f0 x.f1 y.f0 y.f1 q _ HCF.out).mono ?_; rintro e wA ⟨rfl, hbA⟩; have HBX := Aside0.mk (below_step (by first | exact HBY.out | exact HB0.out : Below wr.heap.size wr _) hbA); obtain ⟨f1, f2, f3, f4⟩ := HF.out _ HBX.out; clear hbA) | (go_simp; go_at_call 9; refine (affluxlaw22_clash.calls K2 A1 (ca - i) [x] B1 (cb - i) [y] q _ (Kd.C_below HCA1.out (below_step HBL.out (by first | exact HBX.out | exact HB0.out))) hcai (Kd.C_below HCB1.out (below_step HBL.out (by first | exact HBX.out | exact HB0.out))) hcbi HK2.out).mono ?_; rintro e wB ⟨rfl, ⟨nB, hwB⟩⟩; have HBY : Aside0 (Below wr.heap.size wr wB) := ⟨by rw [hwB]; exact pw_below_drewN (by first | exact HBX.out | exact HB0.out) nB⟩; obtain ⟨g1, g2, g3, g4⟩ := HF.out _ HBY.out; clear hwB))
          all_goals
            go_wp2
            go_roundg k1
            case measure => have := HQ.out; omega
            case rel => exact ⟨i + 1, by go_num, ⟨by have := HQ.out; omega⟩, by omega, ⟨below_step HBL.out (by first | exact HBY.out | exact HBX.out)⟩⟩
        · by_cases hia : i < a.length
          · have hib : ¬ (i : Int) < (b.length : Int) := by omega
            clear hin
            have HA' := Aside0.mk (Kd.C_below HA.out HBL.out)
            obtain ⟨xs, hxs⟩ : ∃ xs, xs = [] ++ a ++ b := ⟨_, rfl⟩
            have hxs2 : xs = a ++ b := hxs
            obtain ⟨u, hu⟩ : ∃ u, u = uniL (sortL xs) := ⟨_, rfl⟩
            have hxl : xs.length ≤ 20 := by rw [hxs2, List.length_append]; omega
            have hul : u.length ≤ 20 := by rw [hu]; exact Nat.le_trans (uniL_length _) (by rw [sortL_length]; exact hxl)
            obtain ⟨K3, hK3⟩ := union_at xs (by omega)
            rw [← hu] at hK3
            obtain ⟨K4, hK4⟩ := wants_at u (by omega)
            have HK3 := Aside0.mk (hK3 K3 (Nat.le_refl _))
            have HK4 := Aside0.mk (hK4 K4 (Nat.le_refl _))
            have HF1 : Aside0 ([a, b].flatten = xs) := ⟨by rw [hxs2]; simp⟩
            have HF2 : Aside0 (uniL (sortL ([b, [], a].flatten)) = u) := ⟨by rw [hu, hxs2, ← union_same]; simp⟩
            have HXS := Aside0.mk hxs
            have HXS2 := Aside0.mk hxs2
            have HU := Aside0.mk hu
            clear hK3 hK4 hxs hxs2 hu
            go_wp2_with (first | ((with_reducible refine gate_builtin (b := .append) (xs := #[.tmp 47, .tmp 48]) rfl ?_); at_builtin; refine Kd.R_append_rows k31 (w0 := w) w.heap.size rfl (.tmp 47) (.tmp 48) 22 31 (.agg #[(.string ⟨#[]⟩), (.bool false)]) 24 rfl Try.underlying22 info31 rfl (by decide) (by omega) (.slice (some ⟨wr.heap.size, 0, none⟩) 0 0) [] a A a.length ca (fun _ => True) (fun _ => False) rfl rfl (R_room k31 31 _ w.heap.size wr.heap.size 0 #[] (blk_new wr _) HBL.out.size (Nat.zero_le _) rfl) (Kd.C_alloc HA'.out _) (fun x cs h => KM _ _ _ x cs h) (fun _ hk => hk.elim) (fun _ _ => trivial) (below_alloc HBL.out _) (below_alloc HBL.out _).size (by simp; omega) ?_; intro v1 w6 ho1 hb1 hg_ hat_; clear hg_ hat_; have HO1 := Aside0.mk ho1; have HB1 := Aside0.mk hb1; clear ho1 hb1) | ((with_reducible refine gate_builtin (b := .append) (xs := #[.tmp 49, .tmp 50]) rfl ?_); at_builtin; refine Kd.R_append_rows k31 (w0 := w) w.heap.size rfl (.tmp 49) (.tmp 50) 22 31 (.agg #[(.string ⟨#[]⟩), (.bool false)]) 24 rfl Try.underlying22 info31 rfl (by decide) (by omega) v1 ([] ++ a) b B b.length cb (fun _ => True) (fun _ => False) rfl rfl HO1.out (Kd.C_below HB.out HB1.out) (fun x cs h => KM _ _ _ x cs h) (fun _ hk => hk.elim) (fun _ _ => trivial) HB1.out HB1.out.size (by simp; omega) ?_; intro v2 w7 ho2 hb2 hg_ hat_; clear hg_ hat_; rw [← HXS.out] at ho2; obtain ⟨A2, c2, e2⟩ := Kd.R_slice ho2; subst e2; have HO2 := Aside0.mk ho2; have HB2 := Aside0.mk hb2; clear ho2 hb2))
            refine (union_calls (some ⟨w7.heap.size, 0, none⟩) 2 [a, b] _ (C_of_block (blk_new w7 _) (Reps.one (show (Kd.slice 31 k31).K _ a [.slice A a.length ca] from ⟨A, ca, rfl, hca, Kd.C_alloc (Kd.C_below HA.out HB2.out) _⟩) (Reps.one (show (Kd.slice 31 k31).K _ b [.slice B b.length cb] from ⟨B, cb, rfl, hcb, Kd.C_alloc (Kd.C_below HB.out HB2.out) _⟩) (Reps.none _ _))) (by simp)) (by rw [HF1.out]; exact hxl)).mono ?_
            rintro e w8 ⟨v3, rfl, ho3, hb3⟩
            rw [HF1.out, ← HU.out] at ho3
            obtain ⟨A3, c3, rfl⟩ := Kd.R_slice ho3
            have HB3 := Aside0.mk (below_step (below_alloc HB2.out _) hb3)
            replace HO2 := Aside0.mk (Kd.R_below (Kd.R_alloc HO2.out _) hb3)
            have HO3 := Aside0.mk ho3
            clear hb3 ho3 HB2
            go_wp2_with fail
            refine (affluxlaw22_union.calls K3 A2 c2 xs u w8 (Kd.R_reads' HO2.out).2.2 (Kd.R_reads' HO2.out).2.1 HK3.out).mono ?_
            rintro e w9 ⟨v4, rfl, ho4, hb4⟩
            obtain ⟨A4, c4, rfl⟩ := Kd.R_slice ho4
            replace HB3 := Aside0.mk (below_step HB3.out hb4)
            replace HO2 := Aside0.mk (Kd.R_below HO2.out hb4)
            replace HO3 := Aside0.mk (Kd.R_below HO3.out hb4)
            have HO4 := Aside0.mk ho4
            clear hb4 ho4
            go_wp2_with fail
            refine (affluxlaw22_wants.calls K4 A3 c3 u A4 c4 u true w9 (Kd.R_reads' HO3.out).2.2 (Kd.R_reads' HO3.out).2.1 (Kd.R_reads' HO4.out).2.2 (Kd.R_reads' HO4.out).2.1 HK4.out).mono ?_
            rintro e w10 ⟨rfl, ⟨n10, hw10⟩⟩
            replace HB3 : Aside0 (Below w.heap.size w w10) := ⟨by rw [hw10]; exact pw_below_drewN HB3.out n10⟩
            replace HO2 := Aside0.mk (Kd.R_drewN HO2.out n10)
            rw [← hw10] at HO2
            clear HO3 HO4 hw10
            go_wp2_with fail
            refine (union_calls (some ⟨w10.heap.size, 0, none⟩) 3 [b, [], a] _ (C_of_block (blk_new w10 _) (Reps.one (show (Kd.slice 31 k31).K _ b [.slice B b.length cb] from ⟨B, cb, rfl, hcb, Kd.C_alloc (Kd.C_below HB.out HB3.out) _⟩) (Reps.one (show (Kd.slice 31 k31).K _ [] [.slice none 0 0] from ⟨none, 0, rfl, Nat.le_refl _, Kd.C_nil _ _⟩) (Reps.one (show (Kd.slice 31 k31).K _ a [.slice A a.length ca] from ⟨A, ca, rfl, hca, Kd.C_alloc (Kd.C_below HA.out HB3.out) _⟩) (Reps.none _ _)))) (by simp)) (by simp; omega)).mono ?_
            rintro e w11 ⟨v5, rfl, ho5, hb5⟩
            rw [HF2.out] at ho5
            obtain ⟨A5, c5, rfl⟩ := Kd.R_slice ho5
            replace HB3 := Aside0.mk (below_step (below_alloc HB3.out _) hb5)
            replace HO2 := Aside0.mk (Kd.R_below (Kd.R_alloc HO2.out _) hb5)
            have HO5 := Aside0.mk ho5
            clear hb5 ho5
            go_wp2_with fail
            refine (affluxlaw22_union.calls K3 A2 c2 xs u w11 (Kd.R_reads' HO2.out).2.2 (Kd.R_reads' HO2.out).2.1 HK3.out).mono ?_
            rintro e w12 ⟨v6, rfl, ho6, hb6⟩
            obtain ⟨A6, c6, rfl⟩ := Kd.R_slice ho6
            replace HB3 := Aside0.mk (below_step HB3.out hb6)
            replace HO5 := Aside0.mk (Kd.R_below HO5.out hb6)
            have HO6 := Aside0.mk ho6
            clear hb6 ho6 HO2
            go_wp2_with fail
            refine (affluxlaw22_wants.calls K4 A5 c5 u A6 c6 u true w12 (Kd.R_reads' HO5.out).2.2 (Kd.R_reads' HO5.out).2.1 (Kd.R_reads' HO6.out).2.2 (Kd.R_reads' HO6.out).2.1 HK4.out).mono ?_
            rintro e w13 ⟨rfl, ⟨n13, hw13⟩⟩
            replace HB3 : Aside0 (Below w.heap.size w w13) := ⟨by rw [hw13]; exact pw_below_drewN HB3.out n13⟩
            clear HO5 HO6 hw13
            go_wp2_with fail
            refine (union_calls none 0 [] w13 (Kd.C_nil _ _) (by simp)).mono ?_
            rintro e w14 ⟨v7, rfl, ho7, hb7⟩
            have e7 : uniL (sortL ([] : List (List W)).flatten) = [] := by
              rw [List.flatten_nil, sortL_nil]; rfl
            rw [e7] at ho7
            obtain ⟨A7, c7, rfl⟩ := Kd.R_slice ho7
            replace HB3 := Aside0.mk (below_step HB3.out hb7)
            clear hb7 ho7 e7
            go_wp2_with fail
            refine (awake_calls _).mono ?_
            rintro e w15 ⟨rfl, hb15⟩
            replace HB3 := Aside0.mk (below_step HB3.out hb15)
            clear hb15
            go_wp2_with fail
            go_ret
            exact ⟨rfl, HB3.out⟩
          · have hib : ¬ (i : Int) < (a.length : Int) := by omega
            clear hin
            have HA' := Aside0.mk (Kd.C_below HA.out HBL.out)
            obtain ⟨xs, hxs⟩ : ∃ xs, xs = [] ++ a ++ b := ⟨_, rfl⟩
            have hxs2 : xs = a ++ b := hxs
            obtain ⟨u, hu⟩ : ∃ u, u = uniL (sortL xs) := ⟨_, rfl⟩
            have hxl : xs.length ≤ 20 := by rw [hxs2, List.length_append]; omega
            have hul : u.length ≤ 20 := by rw [hu]; exact Nat.le_trans (uniL_length _) (by rw [sortL_length]; exact hxl)
            obtain ⟨K3, hK3⟩ := union_at xs (by omega)
            rw [← hu] at hK3
            obtain ⟨K4, hK4⟩ := wants_at u (by omega)
            have HK3 := Aside0.mk (hK3 K3 (Nat.le_refl _))
            have HK4 := Aside0.mk (hK4 K4 (Nat.le_refl _))
            have HF1 : Aside0 ([a, b].flatten = xs) := ⟨by rw [hxs2]; simp⟩
            have HF2 : Aside0 (uniL (sortL ([b, [], a].flatten)) = u) := ⟨by rw [hu, hxs2, ← union_same]; simp⟩
            have HXS := Aside0.mk hxs
            have HXS2 := Aside0.mk hxs2
            have HU := Aside0.mk hu
            clear hK3 hK4 hxs hxs2 hu
            go_wp2_with (first | ((with_reducible refine gate_builtin (b := .append) (xs := #[.tmp 47, .tmp 48]) rfl ?_); at_builtin; refine Kd.R_append_rows k31 (w0 := w) w.heap.size rfl (.tmp 47) (.tmp 48) 22 31 (.agg #[(.string ⟨#[]⟩), (.bool false)]) 24 rfl Try.underlying22 info31 rfl (by decide) (by omega) (.slice (some ⟨wr.heap.size, 0, none⟩) 0 0) [] a A a.length ca (fun _ => True) (fun _ => False) rfl rfl (R_room k31 31 _ w.heap.size wr.heap.size 0 #[] (blk_new wr _) HBL.out.size (Nat.zero_le _) rfl) (Kd.C_alloc HA'.out _) (fun x cs h => KM _ _ _ x cs h) (fun _ hk => hk.elim) (fun _ _ => trivial) (below_alloc HBL.out _) (below_alloc HBL.out _).size (by simp; omega) ?_; intro v1 w6 ho1 hb1 hg_ hat_; clear hg_ hat_; have HO1 := Aside0.mk ho1; have HB1 := Aside0.mk hb1; clear ho1 hb1) | ((with_reducible refine gate_builtin (b := .append) (xs := #[.tmp 49, .tmp 50]) rfl ?_); at_builtin; refine Kd.R_append_rows k31 (w0 := w) w.heap.size rfl (.tmp 49) (.tmp 50) 22 31 (.agg #[(.string ⟨#[]⟩), (.bool false)]) 24 rfl Try.underlying22 info31 rfl (by decide) (by omega) v1 ([] ++ a) b B b.length cb (fun _ => True) (fun _ => False) rfl rfl HO1.out (Kd.C_below HB.out HB1.out) (fun x cs h => KM _ _ _ x cs h) (fun _ hk => hk.elim) (fun _ _ => trivial) HB1.out HB1.out.size (by simp; omega) ?_; intro v2 w7 ho2 hb2 hg_ hat_; clear hg_ hat_; rw [← HXS.out] at ho2; obtain ⟨A2, c2, e2⟩ := Kd.R_slice ho2; subst e2; have HO2 := Aside0.mk ho2; have HB2 := Aside0.mk hb2; clear ho2 hb2))
            refine (union_calls (some ⟨w7.heap.size, 0, none⟩) 2 [a, b] _ (C_of_block (blk_new w7 _) (Reps.one (show (Kd.slice 31 k31).K _ a [.slice A a.length ca] from ⟨A, ca, rfl, hca, Kd.C_alloc (Kd.C_below HA.out HB2.out) _⟩) (Reps.one (show (Kd.slice 31 k31).K _ b [.slice B b.length cb] from ⟨B, cb, rfl, hcb, Kd.C_alloc (Kd.C_below HB.out HB2.out) _⟩) (Reps.none _ _))) (by simp)) (by rw [HF1.out]; exact hxl)).mono ?_
            rintro e w8 ⟨v3, rfl, ho3, hb3⟩
            rw [HF1.out, ← HU.out] at ho3
            obtain ⟨A3, c3, rfl⟩ := Kd.R_slice ho3
            have HB3 := Aside0.mk (below_step (below_alloc HB2.out _) hb3)
            replace HO2 := Aside0.mk (Kd.R_below (Kd.R_alloc HO2.out _) hb3)
            have HO3 := Aside0.mk ho3
            clear hb3 ho3 HB2
            go_wp2_with fail
            refine (affluxlaw22_union.calls K3 A2 c2 xs u w8 (Kd.R_reads' HO2.out).2.2 (Kd.R_reads' HO2.out).2.1 HK3.out).mono ?_
            rintro e w9 ⟨v4, rfl, ho4, hb4⟩
            obtain ⟨A4, c4, rfl⟩ := Kd.R_slice ho4
            replace HB3 := Aside0.mk (below_step HB3.out hb4)
            replace HO2 := Aside0.mk (Kd.R_below HO2.out hb4)
            replace HO3 := Aside0.mk (Kd.R_below HO3.out hb4)
            have HO4 := Aside0.mk ho4
            clear hb4 ho4
            go_wp2_with fail
            refine (affluxlaw22_wants.calls K4 A3 c3 u A4 c4 u true w9 (Kd.R_reads' HO3.out).2.2 (Kd.R_reads' HO3.out).2.1 (Kd.R_reads' HO4.out).2.2 (Kd.R_reads' HO4.out).2.1 HK4.out).mono ?_
            rintro e w10 ⟨rfl, ⟨n10, hw10⟩⟩
            replace HB3 : Aside0 (Below w.heap.size w w10) := ⟨by rw [hw10]; exact pw_below_drewN HB3.out n10⟩
            replace HO2 := Aside0.mk (Kd.R_drewN HO2.out n10)
            rw [← hw10] at HO2
            clear HO3 HO4 hw10
            go_wp2_with fail
            refine (union_calls (some ⟨w10.heap.size, 0, none⟩) 3 [b, [], a] _ (C_of_block (blk_new w10 _) (Reps.one (show (Kd.slice 31 k31).K _ b [.slice B b.length cb] from ⟨B, cb, rfl, hcb, Kd.C_alloc (Kd.C_below HB.out HB3.out) _⟩) (Reps.one (show (Kd.slice 31 k31).K _ [] [.slice none 0 0] from ⟨none, 0, rfl, Nat.le_refl _, Kd.C_nil _ _⟩) (Reps.one (show (Kd.slice 31 k31).K _ a [.slice A a.length ca] from ⟨A, ca, rfl, hca, Kd.C_alloc (Kd.C_below HA.out HB3.out) _⟩) (Reps.none _ _)))) (by simp)) (by simp; omega)).mono ?_
            rintro e w11 ⟨v5, rfl, ho5, hb5⟩
            rw [HF2.out] at ho5
            obtain ⟨A5, c5, rfl⟩ := Kd.R_slice ho5
            replace HB3 := Aside0.mk (below_step (below_alloc HB3.out _) hb5)
            replace HO2 := Aside0.mk (Kd.R_below (Kd.R_alloc HO2.out _) hb5)
            have HO5 := Aside0.mk ho5
            clear hb5 ho5
            go_wp2_with fail
            refine (affluxlaw22_union.calls K3 A2 c2 xs u w11 (Kd.R_reads' HO2.out).2.2 (Kd.R_reads' HO2.out).2.1 HK3.out).mono ?_
            rintro e w12 ⟨v6, rfl, ho6, hb6⟩
            obtain ⟨A6, c6, rfl⟩ := Kd.R_slice ho6
            replace HB3 := Aside0.mk (below_step HB3.out hb6)
            replace HO5 := Aside0.mk (Kd.R_below HO5.out hb6)
            have HO6 := Aside0.mk ho6
            clear hb6 ho6 HO2
            go_wp2_with fail
            refine (affluxlaw22_wants.calls K4 A5 c5 u A6 c6 u true w12 (Kd.R_reads' HO5.out).2.2 (Kd.R_reads' HO5.out).2.1 (Kd.R_reads' HO6.out).2.2 (Kd.R_reads' HO6.out).2.1 HK4.out).mono ?_
            rintro e w13 ⟨rfl, ⟨n13, hw13⟩⟩
            replace HB3 : Aside0 (Below w.heap.size w w13) := ⟨by rw [hw13]; exact pw_below_drewN HB3.out n13⟩
            clear HO5 HO6 hw13
            go_wp2_with fail
            refine (union_calls none 0 [] w13 (Kd.C_nil _ _) (by simp)).mono ?_
            rintro e w14 ⟨v7, rfl, ho7, hb7⟩
            have e7 : uniL (sortL ([] : List (List W)).flatten) = [] := by
              rw [List.flatten_nil, sortL_nil]; rfl
            rw [e7] at ho7
            obtain ⟨A7, c7, rfl⟩ := Kd.R_slice ho7
            replace HB3 := Aside0.mk (below_step HB3.out hb7)
            clear hb7 ho7 e7
            go_wp2_with fail
            refine (awake_calls _).mono ?_
            rintro e w15 ⟨rfl, hb15⟩
            replace HB3 := Aside0.mk (below_step HB3.out hb15)
            clear hb15
            go_wp2_with fail
            go_ret
            exact ⟨rfl, HB3.out⟩
end Go.Proofs.Ytbpadimcnamdpaa.PK
/- lock: the table beside the law's own asks. -/
namespace Go.Proofs.Ytbpadimcnamdpaa.PK
open Go.RowKit Go.Proofs.YtbpadimcnamdpaaW.PrintWords Go.Proofs.YtbpadimcnamdpaaW.PrintLast Go.Proofs.YtbpadimcnamdpaaW.PrintMore
theorem info55 : (Try.prog.info? 55).map (fun i => (i.zero, i.size, i.bytes)) = some (some (.agg #[.int .i64 0, .slice none 0 0, .bool false]), 3, 40) := by kernel_rfl
theorem R_one {w : World} {base g : Nat} {x : Int} (hg : w.heap[g]? = some (.cells #[.int .i64 x] 3 (0, 0))) (hb : base ≤ g) : Kd.R (Kd.int .i64) 3 w base (fun _ => True) (.slice (some ⟨g, 0, none⟩) 1 1) [x] :=
  ⟨fun _ _ => trivial, [.int .i64 x], ⟨rfl, .inr ⟨g, 1, _, rfl, hb, hg, Nat.le_refl _, by unfold maxLen; omega, rfl, rfl⟩⟩, Reps.one (show Kd.M (Kd.int .i64) _ _ _ x [.int .i64 x] from rfl) (Reps.none _ _)⟩
theorem alloc_size (w : World) (o : Obj) : (w.alloc o).heap.size = w.heap.size + 1 := by show (w.heap.push _).size = _; rw [Array.size_push]
theorem blk_new2 (w : World) (o1 o2 : Obj) : ((w.alloc o1).alloc o2).heap[w.heap.size + 1]? = some o2 := by
  have h := blk_new (w.alloc o1) o2
  rw [alloc_size] at h
  exact h
theorem below_alloc' (B : Nat) (w : World) (o : Obj) (h : B ≤ w.heap.size) : Below B w (w.alloc o) := (Below.refl B w).alloc h o
theorem below_alloc1 {w w' : World} {o : Obj} (h : Below (w.heap.size + 1) (w.alloc o) w') : Below w.heap.size w w' :=
  (below_alloc (Below.refl _ _) o).trans ⟨h.os, h.tape, h.output, h.size, fun k hk => h.block k (by omega)⟩
/-- The table (blocks S), and the law's own asks (blocks N). -/
structure St (w : World) (base : Nat) (S N : Nat → Prop) (g : Nat) (l : List Ask) (v : Value) (m : List Was) : Prop where
  tab : TabAt w base S g l
  now : Kd.R k55 55 w base N v m
  apart : ∀ k, N k → ¬ S k
  ltS : ∀ k, S k → k < w.heap.size
  geS : ∀ k, S k → base ≤ k
  ltN : ∀ k, N k → k < w.heap.size
  geN : ∀ k, N k → base ≤ k
  base_le : base ≤ w.heap.size
def stepL (l : List Ask) (a : Act_) : List Ask := if a.f0 = 0 then askL l a.f1 a.f3 else if a.f0 = 1 then (grantL l (a.f1 :: a.f2)).2 else (freeL l (a.f1 :: a.f2)).2
/-- What stands behind does. -/
def DoesPost (w : World) (base g : Nat) (l' : List Ask) (m : List Was) (e : Ending) (w' : World) : Prop :=
  ∃ (v' : Value) (m' : List Was) (S' N' : Nat → Prop) (b : Bool), e = .returned (.tuple #[v', .bool b]) ∧ St w' base S' N' g l' v' m' ∧ m'.length ≤ m.length + 1 ∧ (∀ x ∈ m', x.f1.length ≤ 1000) ∧ Below base w w'
theorem St.below {w w1 : World} {base g : Nat} {S N : Nat → Prop} {l : List Ask} {v : Value} {m : List Was} (h : St w base S N g l v m) (hb : Below w.heap.size w w1) : St w1 base S N g l v m :=
  ⟨h.tab.below hb, Kd.R_below h.now hb, h.apart, fun k hk => Nat.lt_of_lt_of_le (h.ltS k hk) hb.size, h.geS, fun k hk => Nat.lt_of_lt_of_le (h.ltN k hk) hb.size, h.geN, Nat.le_trans h.base_le hb.size⟩
theorem St.kp {w w1 : World} {base g : Nat} {S N : Nat → Prop} {l l1 : List Ask} {v : Value} {m : List Was} (h : St w base S N g l v m) (hk : Kp (fun k => S k ∨ w.heap.size ≤ k) w w1) (ht : TabAt w1 base (fun k => S k ∨ w.heap.size ≤ k) g l1) : St w1 base (fun k => (S k ∨ w.heap.size ≤ k) ∧ k < w1.heap.size) N g l1 v m ∧ Below base w w1 := by
  have hna : ∀ k, N k → ¬ (S k ∨ w.heap.size ≤ k) := fun k hn => by
    rintro (hs | hs)
    · exact h.apart k hn hs
    · have := h.ltN k hn; omega
  refine ⟨⟨ht.now, Kd.R_step h.now (fun k hn hlt => hk.block k hlt (hna k hn)), fun k hn hs => hna k hn hs.1, fun k hs => hs.2, ?_, fun k hn => Nat.lt_of_lt_of_le (h.ltN k hn) hk.size, h.geN, Nat.le_trans h.base_le hk.size⟩, ⟨hk.os, hk.tape, hk.output, hk.size, fun k hlt => hk.block k (Nat.lt_of_lt_of_le hlt h.base_le) ?_⟩⟩
  · rintro k ⟨hs | hs, _⟩
    · exact h.geS k hs
    · exact Nat.le_trans h.base_le hs
  · rintro (hs | hs)
    · have := h.geS k hs; omega
    · have := h.base_le; omega
theorem ask_step (base g : Nat) (S N : Nat → Prop) (l : List Ask) (v : Value) (m : List Was) (id : Int) (A : Option Addr) (c : Nat) (ws : List W) (w : World) (h : St w base S N g l v m) (hW : Kd.C k31 w A ws.length ws) (hc : ws.length ≤ c) (hws : ws.length ≤ 20) (hsm : l.length ≤ 1073741824) :
    Calls Try.prog 21 #[.pointer (some ⟨g, 0, none⟩), .int .i64 id, .slice A ws.length c] w fun e w' => e = .returned (.int .i64 (askCode l id)) ∧ (∃ S', St w' base S' N g (askL l id ws) v m) ∧ Below base w w' := by
  refine (ask_calls base g (fun k => S k ∨ w.heap.size ≤ k) l id A c ws w (h.tab.mono (fun _ hs => .inl hs)) hW hc hws hsm (fun _ hk => .inr hk)).mono ?_
  rintro e w' ⟨he, ht, hk⟩
  have := h.kp hk ht
  exact ⟨he, ⟨_, this.1⟩, this.2⟩
theorem grant_step (base g : Nat) (S N : Nat → Prop) (l : List Ask) (v : Value) (m : List Was) (ids : List Int) (A : Option Addr) (c : Nat) (w : World) (h : St w base S N g l v m) (hI : Kd.C (Kd.int .i64) w A ids.length ids) (hfar : ∀ ad, A = some ad → ¬ S ad.block) (hsm : l.length ≤ 1073741824) :
    Calls Try.prog 20 #[.pointer (some ⟨g, 0, none⟩), .slice A ids.length c] w fun e w' => e = .returned (.int .i64 (grantL l ids).1) ∧ (∃ S', St w' base S' N g (grantL l ids).2 v m) ∧ Below base w w' := by
  refine (grant_calls base g S l A c ids w h.tab hI hfar hsm).mono ?_
  rintro e w' ⟨he, ht, hk⟩
  have := h.kp hk ht
  exact ⟨he, ⟨_, this.1⟩, this.2⟩
theorem free_step (base g : Nat) (S N : Nat → Prop) (l : List Ask) (v : Value) (m : List Was) (ids : List Int) (A : Option Addr) (c : Nat) (w : World) (h : St w base S N g l v m) (hI : Kd.C (Kd.int .i64) w A ids.length ids) (hfar : ∀ ad, A = some ad → ¬ S ad.block) (hsm : l.length ≤ 1073741824) :
    Calls Try.prog 19 #[.pointer (some ⟨g, 0, none⟩), .slice A ids.length c] w fun e w' => e = .returned (.int .i64 (freeL l ids).1) ∧ (∃ S', St w' base S' N g (freeL l ids).2 v m) ∧ Below base w w' := by
  refine (free_calls base g S l A c ids w h.tab hI hfar hsm).mono ?_
  rintro e w' ⟨he, ht, hk⟩
  have := h.kp hk ht
  exact ⟨he, ⟨_, this.1⟩, this.2⟩
end Go.Proofs.Ytbpadimcnamdpaa.PK
/- lock: the law's does: an ask. -/
namespace Go.Proofs.Ytbpadimcnamdpaa.PK
open Go.RowKit Go.Proofs.YtbpadimcnamdpaaW.PrintWords Go.Proofs.YtbpadimcnamdpaaW.PrintLast Go.Proofs.YtbpadimcnamdpaaW.PrintMore
theorem TabAt.step {w w1 : World} {base g : Nat} {S : Nat → Prop} {l : List Ask} (h : TabAt w base S g l) (hm : ∀ k, S k → k < w.heap.size → w1.heap[k]? = w.heap[k]?) : TabAt w1 base S g l := by
  obtain ⟨A, c, h1, h2⟩ := h.row
  exact ⟨h.own, h.ge, A, c, (hm g h.own (blk_lt h1)).trans h1, Kd.R_step h2 (fun k hk hlt => hm k hk.1 hlt)⟩
theorem BX.cell {w w1 : World} {row : Option Nat} {b j : Nat} {u : Value} (hg : w.grownBy w1 row) (hc : w.cell? ⟨b, j, none⟩ = some u) (hn : some b ≠ row) : w1.cell? ⟨b, j, none⟩ = some u := by
  rw [World.cell?_of_block (w := w) (hg.block b (cell_lt hc) hn)]
  exact hc
theorem uni_len (l : List W) (hl : l.length ≤ 1000) : (uniL (sortL l)).length ≤ l.length := by
  obtain ⟨r, hr, hrl, hev⟩ := union_go l hl l.length 0 [] (by omega) (by simpa using US.nil) (Nat.zero_le _)
  rw [← hr.uniq (uni_US l)]
  exact hrl
/-- Behind 'now = append(now, ..)'. -/
theorem St.app {w w8 w9 : World} {base g : Nat} {S N : Nat → Prop} {l : List Ask} {v v9 : Value} {m m9 : List Was} (h : St w base S N g l v m) (hb : Below w.heap.size w w8) (hg : w8.grownBy w9 v.ownBlock) (ho : Kd.R k55 55 w9 base (fun k => N k ∨ w.heap.size ≤ k) v9 m9) : St w9 base S (fun k => (N k ∨ w.heap.size ≤ k) ∧ k < w9.heap.size) g l v9 m9 := by
  have h8 := h.below hb
  refine ⟨h8.tab.step (fun k hs hlt => hg.block k hlt (fun e => h.apart k (h.now.1 k e.symm) hs)), Kd.R_mono (Kd.R_bound ho) (fun k hk => ⟨hk.1, hk.2.2.1⟩), ?_, fun k hs => Nat.lt_of_lt_of_le (h8.ltS k hs) hg.size, h.geS, fun k hk => hk.2, ?_, Nat.le_trans h8.base_le hg.size⟩
  · rintro k ⟨hn | hn, _⟩ hs
    · exact h.apart k hn hs
    · have := h.ltS k hs; omega
  · rintro k ⟨hn | hn, _⟩
    · exact h.geN k hn
    · exact Nat.le_trans h.base_le hn
set_option maxHeartbeats 4000000 in
set_option maxRecDepth 100000 in
theorem does0_calls (base g : Nat) (S N : Nat → Prop) (l : List Ask) (v : Value) (m : List Was) (A2 A3 : Option Addr) (c2 c3 : Nat) (id : Int) (more : List Int) (ws : List W) (w : World)
    (hS : St w base S N g l v m) (h2 : Kd.C (Kd.int .i64) w A2 more.length more) (h3 : ∀ w', Below base w w' → Kd.C k31 w' A3 ws.length ws) (hc3 : ws.length ≤ c3) (hm2 : more.length ≤ 10) (hw3 : ws.length ≤ 10) (hl : l.length ≤ 1000) (hm : m.length ≤ 1000) (hmw : ∀ x ∈ m, x.f1.length ≤ 1000) :
    Calls Try.prog 14 #[.pointer (some ⟨g, 0, none⟩), v, .agg #[.int .i64 0, .int .i64 id, .slice A2 more.length c2, .slice A3 ws.length c3]] w (DoesPost w base g (askL l id ws) m) := by
  have HS := Aside0.mk hS
  have H2 := Aside0.mk h2
  have H3F := Aside0.mk h3
  have H3 := Aside0.mk (h3 w (Below.refl _ _))
  have HMW := Aside0.mk hmw
  obtain ⟨A1, c1, e1⟩ := Kd.R_slice hS.now
  subst e1
  clear hS h2 h3 hmw
  obtain ⟨n2, hn2⟩ : ∃ n2, n2 = more.length := ⟨_, rfl⟩
  obtain ⟨n3, hn3⟩ : ∃ n3, n3 = ws.length := ⟨_, rfl⟩
  rw [← hn2] at H2 hm2 ⊢
  rw [← hn3] at H3 hw3 hc3 ⊢
  have HN2 := Aside0.mk hn2
  have HN3 := Aside0.mk hn3
  clear hn2 hn3
  obtain ⟨lx, hlx⟩ : ∃ lx, lx = askL l id ws := ⟨_, rfl⟩
  rw [← hlx]
  have HLX := Aside0.mk hlx
  clear hlx
  go_enter Try.func14, Try.ntmps14
  obtain ⟨bx, hbx⟩ : ∃ bx : Obj, bx = .cells #[.int .i64 0, .int .i64 id, .slice A2 n2 c2, .slice A3 n3 c3] 26 := ⟨_, rfl⟩
  have HBX := Aside0.mk hbx
  clear hbx
  go_wp2_with (first | ((with_reducible refine gate_builtin (b := .append) (xs := #[.tmp 19, .tmp 21]) rfl ?_); at_builtin; rw [← HBX.out]; refine Kd.R_append_rows (Kd.int .i64) (w0 := w.alloc bx) (w.heap.size + 1) rfl (.tmp 19) (.tmp 21) 24 3 (.int .i64 0) 8 rfl Try.underlying24 info3 rfl (by decide) (by omega) (.slice (some ⟨w.heap.size + 1, 0, none⟩) 1 1) [id] more A2 n2 c2 (fun _ => True) (fun _ => False) (by first | rfl | (simp [Act.eval, Act.put, World.alloc])) rfl (R_one (blk_new2 w _ _) (Nat.le_refl _)) (Kd.C_alloc (Kd.C_alloc H2.out _) _) (fun x cs h => h) (fun _ hk => hk.elim) (fun _ _ => trivial) (below_alloc' (w.heap.size + 1) _ _ (Nat.le_of_eq (alloc_size w bx).symm)) (by rw [alloc_size, alloc_size]; omega) (by simp; omega) ?_; intro v8 w6 ho6 hb6 hg_ hat_; clear hg_ hat_; have HO6 := Aside0.mk ho6; have hbb := (hb6.block w.heap.size (by omega)).trans (blk_new w bx); rw [HBX.out] at hbb; have HBB := Aside0.mk hbb; have HSZ := Aside0.mk hb6.size; have HB6 := Aside0.mk (below_alloc1 hb6); have hx0 : w6.cell? ⟨w.heap.size, 0, none⟩ = some (.int .i64 0) := blk_cell hbb 0; have hx1 : w6.cell? ⟨w.heap.size, 1, none⟩ = some (.int .i64 id) := blk_cell hbb 1; have hx3 : w6.cell? ⟨w.heap.size, 3, none⟩ = some (.slice A3 n3 c3) := blk_cell hbb 3; clear ho6 hb6 hbb))
  · obtain ⟨code, hcode⟩ : ∃ code, code = askCode l id := ⟨_, rfl⟩
    have hcall := ask_step base g S N l _ m id A3 c3 ws w6 (HS.out.below HB6.out) (by rw [← HN3.out]; exact Kd.C_below H3.out HB6.out) (by rw [← HN3.out]; exact hc3) (by rw [← HN3.out]; omega) (by omega)
    rw [← HN3.out, ← hcode, ← HLX.out] at hcall
    clear hcode
    refine hcall.mono ?_
    rintro e w7 ⟨rfl, ⟨S7, hs7⟩, hb7⟩
    have HS7 := Aside0.mk hs7
    have HB7 := Aside0.mk ((HB6.out.mono HS.out.base_le).trans hb7)
    clear hs7 hb7 hcall
    go_wp2
    all_goals
      go_ret2
      exact ⟨_, _, S7, N, _, rfl, HS7.out, by omega, HMW.out, HB7.out⟩
  · obtain ⟨r, ⟨K, hK⟩, hr⟩ := find_at m id (by omega)
    refine (affluxlaw22_find.calls K A1 c1 m id r w6 (Kd.R_reads' (HS.out.below HB6.out).now).2.2 (Kd.R_reads' (HS.out.below HB6.out).now).2.1 (hK K (Nat.le_refl _))).mono ?_
    rintro e w7 ⟨rfl, hd⟩
    have hb := hd.below
    have HB7 := Aside0.mk (below_step HB6.out hb)
    have hlt6 : w.heap.size < w6.heap.size := by have := HSZ.out; rw [alloc_size] at this; omega
    have hsz7 := Nat.lt_of_lt_of_le hlt6 hb.size
    have hy1 : w7.cell? ⟨w.heap.size, 1, none⟩ = some (.int .i64 id) := (hb.cell (p := ⟨w.heap.size, 1, none⟩) hlt6).trans hx1
    have hy3 : w7.cell? ⟨w.heap.size, 3, none⟩ = some (.slice A3 n3 c3) := (hb.cell (p := ⟨w.heap.size, 3, none⟩) hlt6).trans hx3
    have HS7 := Aside0.mk (HS.out.below HB7.out)
    have H37 := Aside0.mk (Kd.C_below H3.out HB7.out)
    clear hb hd hx0 hx1 hx3 HB6 HSZ HBB HO6 hK
    by_cases hpos : 0 ≤ r
    · have hge : r ≥ 0 := hpos
      go_wp2_with fail
      obtain ⟨code, hcode⟩ : ∃ code, code = askCode l id := ⟨_, rfl⟩
      have hcall := ask_step base g S N l _ m id A3 c3 ws w7 HS7.out (by rw [← HN3.out]; exact H37.out) (by rw [← HN3.out]; exact hc3) (by rw [← HN3.out]; omega) (by omega)
      rw [← HN3.out, ← hcode, ← HLX.out] at hcall
      clear hcode
      refine hcall.mono ?_
      rintro e w8 ⟨rfl, ⟨S8, hs8⟩, hb8⟩
      have HS8 := Aside0.mk hs8
      have HB8 := Aside0.mk ((HB7.out.mono HS.out.base_le).trans hb8)
      clear hs8 hb8 hcall
      go_wp2
      all_goals
        go_ret2
        exact ⟨_, _, S8, N, _, rfl, HS8.out, by omega, HMW.out, HB8.out⟩
    · have hge : ¬ r ≥ 0 := hpos
      obtain ⟨u, hu⟩ : ∃ u, u = uniL (sortL ws) := ⟨_, rfl⟩
      have hul : u.length ≤ 10 := by rw [hu]; have := uni_len ws (by rw [← HN3.out]; omega); rw [← HN3.out] at this; omega
      obtain ⟨K2, hK2⟩ := union_at ws (by rw [← HN3.out]; omega)
      rw [← hu] at hK2
      have hU : Calls Try.prog 12 #[.slice A3 n3 c3] w7.drew fun e w' => ∃ v0_ : Value, e = .returned (v0_) ∧ Kd.R k31 31 w' w7.drew.heap.size (fun _ => True) v0_ u ∧ Below w7.drew.heap.size w7.drew w' := by
        have h := affluxlaw22_union.calls K2 A3 c3 ws u w7.drew (by rw [← HN3.out]; exact Kd.C_drew H37.out) (by rw [← HN3.out]; exact hc3) (hK2 K2 (Nat.le_refl _))
        rw [← HN3.out] at h
        exact h
      have HU := Aside0.mk hU
      clear hU hK2 hu
      go_wp2_with fail
      go_region_law (first | (refine Kd.R_append_step k55 (w0 := w8) base (by rfl) (.tmp 35) (.tmp 42) 37 55 (.agg #[.int .i64 0, .slice none 0 0, .bool false]) 40 rfl Try.underlying37 info55 rfl (by decide) (by omega) (.slice A1 m.length c1) m ⟨id, u, false⟩ [.int .i64 id, .slice A5 u.length c5, .bool false] (fun k => N k ∨ w.heap.size ≤ k) (fun k => w7.heap.size ≤ k) (by first | rfl | simp [Act.eval, Act.put]) (by first | rfl | simp [Act.eval, Act.put]) HAM.out (fun k hk => ⟨.inr (by have := HB7.out.size; omega), fun he => by have := Kd.R_lt HS7.out.now k he.symm; omega⟩) (fun k hk => .inr (by have := HB7.out.size; have := HB8.out.size; omega)) (Kd.R_mono (HS7.out.below HB8.out).now (fun _ h => .inl h)) (Below.refl _ _) (HS7.out.below HB8.out).base_le (by omega) ?_; intro v9 w9 ho9 hb9 hg9 hat9; clear hat9 hb9; have HS9 := Aside0.mk (HS.out.app (below_step HB7.out HB8.out) hg9 ho9); have HB9 := Aside0.mk (((HB7.out.mono HS.out.base_le).trans (HB8.out.mono HS7.out.base_le)).grown hg9 (HS7.out.below HB8.out).base_le (fun k hk => Kd.R_base HS7.out.now k hk)); have hz1 : w9.cell? ⟨w.heap.size, 1, none⟩ = some (.int .i64 id) := BX.cell hg9 hy81 (fun he => by have := Kd.R_lt HS.out.now _ he.symm; omega); have hz3 : w9.cell? ⟨w.heap.size, 3, none⟩ = some (.slice A3 n3 c3) := BX.cell hg9 hy83 (fun he => by have := Kd.R_lt HS.out.now _ he.symm; omega); clear hg9 ho9) | (go_simp; go_at_call 12; refine HU.out.mono ?_; rintro e w8 ⟨v5, rfl, ho5, hb5⟩; obtain ⟨A5, c5, e5⟩ := Kd.R_slice ho5; subst e5; have HB8 : Aside0 (Below w7.heap.size w7 w8) := ⟨(below_drew (Below.refl _ _)).trans hb5⟩; have HAM := Aside0.mk (k55_mkM w8 base (fun k => w7.heap.size ≤ k) ⟨id, u, false⟩ (Kd.R_lower (Kd.R_mono (Kd.R_bound ho5) (fun k hk => hk.2.1)) HS7.out.base_le)); have hy81 := (HB8.out.cell (p := ⟨w.heap.size, 1, none⟩) hsz7).trans hy1; have hy83 := (HB8.out.cell (p := ⟨w.heap.size, 3, none⟩) hsz7).trans hy3; clear ho5 hb5))
      all_goals
        go_wp2_with fail
        obtain ⟨code, hcode⟩ : ∃ code, code = askCode l id := ⟨_, rfl⟩
        have hcall := ask_step base g S _ l _ _ id A3 c3 ws w9 HS9.out (H3F.out w9 HB9.out) (by rw [← HN3.out]; exact hc3) (by rw [← HN3.out]; omega) (by omega)
        rw [← HN3.out, ← hcode, ← HLX.out] at hcall
        clear hcode
        refine hcall.mono ?_
        rintro e w10 ⟨rfl, ⟨S10, hs10⟩, hb10⟩
        have HS10 := Aside0.mk hs10
        have HB10 := Aside0.mk (HB9.out.trans hb10)
        clear hs10 hb10 hcall
        go_wp2
        all_goals
          go_ret2
          exact ⟨_, _, S10, _, _, rfl, HS10.out, by rw [List.length_append]; simp, fun x hx => by rcases List.mem_append.1 hx with h | h; exact HMW.out x h; rw [List.mem_singleton.1 h]; show u.length ≤ 1000; omega, HB10.out⟩
end Go.Proofs.Ytbpadimcnamdpaa.PK
/- lock: the law's does: a grant. -/
namespace Go.Proofs.Ytbpadimcnamdpaa.PK
open Go.RowKit Go.Proofs.YtbpadimcnamdpaaW.PrintWords Go.Proofs.YtbpadimcnamdpaaW.PrintLast Go.Proofs.YtbpadimcnamdpaaW.PrintMore
theorem C_int_kp {N : Nat → Prop} {w w' : World} {A : Option Addr} {n : Nat} {xs : List Int} (h : Kd.C (Kd.int .i64) w A n xs) (hk : Kp N w w') (hn : ∀ ad, A = some ad → ¬ N ad.block) : Kd.C (Kd.int .i64) w' A n xs := by
  obtain ⟨h1, h2, h3⟩ := h
  refine ⟨h1, h2, fun hp => ?_⟩
  obtain ⟨a, ha, hc⟩ := h3 hp
  refine ⟨a, ha, fun j p hj => ?_⟩
  obtain ⟨cs, hl, hK, hcell⟩ := hc j p hj
  exact ⟨cs, hl, hK, fun i u hu => hk.cell (hcell i u hu) (by rw [add_block]; exact hn a ha)⟩
theorem St.renew {w w1 : World} {base g : Nat} {S N : Nat → Prop} {l : List Ask} {v : Value} {m m1 : List Was} (h : St w base S N g l v m) (hk : Kp N w w1) (hr : Kd.R k55 55 w1 base N v m1) : St w1 base S N g l v m1 :=
  ⟨h.tab.step (fun k hs hlt => hk.block k hlt (fun hn => h.apart k hn hs)), hr, h.apart, fun k hs => Nat.lt_of_lt_of_le (h.ltS k hs) hk.size, h.geS, fun k hs => Nat.lt_of_lt_of_le (h.ltN k hs) hk.size, h.geN, Nat.le_trans h.base_le hk.size⟩
theorem below_kpN {w w1 w2 : World} {base : Nat} {N : Nat → Prop} (h : Below base w w1) (hw : base ≤ w1.heap.size) (k : Kp N w1 w2) (hN : ∀ k, N k → base ≤ k) : Below base w w2 :=
  h.trans ⟨k.os, k.tape, k.output, k.size, fun i hi => k.block i (by omega) (fun hn => by have := hN i hn; omega)⟩
set_option maxHeartbeats 4000000 in
set_option maxRecDepth 100000 in
theorem does1_calls (base g : Nat) (S N : Nat → Prop) (l : List Ask) (v : Value) (m : List Was) (A2 A3 : Option Addr) (c2 c3 : Nat) (id : Int) (more : List Int) (ws : List W) (w : World)
    (hS : St w base S N g l v m) (h2 : Kd.C (Kd.int .i64) w A2 more.length more) (h3 : ∀ w', Below base w w' → Kd.C k31 w' A3 ws.length ws) (hc3 : ws.length ≤ c3) (hm2 : more.length ≤ 10) (hw3 : ws.length ≤ 10) (hl : l.length ≤ 1000) (hm : m.length ≤ 1000) (hmw : ∀ x ∈ m, x.f1.length ≤ 1000) :
    Calls Try.prog 14 #[.pointer (some ⟨g, 0, none⟩), v, .agg #[.int .i64 1, .int .i64 id, .slice A2 more.length c2, .slice A3 ws.length c3]] w (DoesPost w base g (grantL l (id :: more)).2 m) := by
  have HS := Aside0.mk hS
  have H2 := Aside0.mk h2
  have H3F := Aside0.mk h3
  have H3 := Aside0.mk (h3 w (Below.refl _ _))
  have HMW := Aside0.mk hmw
  obtain ⟨A1, c1, e1⟩ := Kd.R_slice hS.now
  subst e1
  clear hS h2 h3 hmw
  obtain ⟨n2, hn2⟩ : ∃ n2, n2 = more.length := ⟨_, rfl⟩
  obtain ⟨n3, hn3⟩ : ∃ n3, n3 = ws.length := ⟨_, rfl⟩
  rw [← hn2] at H2 hm2 ⊢
  rw [← hn3] at H3 hw3 hc3 ⊢
  have HN2 := Aside0.mk hn2
  have HN3 := Aside0.mk hn3
  clear hn2 hn3
  obtain ⟨lx, hlx⟩ : ∃ lx, lx = (grantL l (id :: more)).2 := ⟨_, rfl⟩
  rw [← hlx]
  have HLX := Aside0.mk hlx
  clear hlx
  go_enter Try.func14, Try.ntmps14
  obtain ⟨bx, hbx⟩ : ∃ bx : Obj, bx = .cells #[.int .i64 1, .int .i64 id, .slice A2 n2 c2, .slice A3 n3 c3] 26 := ⟨_, rfl⟩
  have HBX := Aside0.mk hbx
  clear hbx
  go_wp2_with (first | ((with_reducible refine gate_builtin (b := .append) (xs := #[.tmp 19, .tmp 21]) rfl ?_); at_builtin; rw [← HBX.out]; refine Kd.R_append_rows (Kd.int .i64) (w0 := w.alloc bx) (w.heap.size + 1) rfl (.tmp 19) (.tmp 21) 24 3 (.int .i64 0) 8 rfl Try.underlying24 info3 rfl (by decide) (by omega) (.slice (some ⟨w.heap.size + 1, 0, none⟩) 1 1) [id] more A2 n2 c2 (fun _ => True) (fun _ => False) (by first | rfl | (simp [Act.eval, Act.put, World.alloc])) rfl (R_one (blk_new2 w _ _) (Nat.le_refl _)) (Kd.C_alloc (Kd.C_alloc H2.out _) _) (fun x cs h => h) (fun _ hk => hk.elim) (fun _ _ => trivial) (below_alloc' (w.heap.size + 1) _ _ (Nat.le_of_eq (alloc_size w bx).symm)) (by rw [alloc_size, alloc_size]; omega) (by simp; omega) ?_; intro v8 w6 ho6 hb6 hg_ hat_; clear hg_ hat_; have HO6 := Aside0.mk ho6; have hbb := (hb6.block w.heap.size (by omega)).trans (blk_new w bx); rw [HBX.out] at hbb; have HBB := Aside0.mk hbb; have HSZ := Aside0.mk hb6.size; have HB6 := Aside0.mk (below_alloc1 hb6); have hx0 : w6.cell? ⟨w.heap.size, 0, none⟩ = some (.int .i64 1) := blk_cell hbb 0; have hx1 : w6.cell? ⟨w.heap.size, 1, none⟩ = some (.int .i64 id) := blk_cell hbb 1; have hx3 : w6.cell? ⟨w.heap.size, 3, none⟩ = some (.slice A3 n3 c3) := blk_cell hbb 3; clear ho6 hb6 hbb))
  obtain ⟨A8, c8, e8⟩ := Kd.R_slice HO6.out
  subst e8
  obtain ⟨n8, hn8⟩ : ∃ n8, n8 = ([id] ++ more).length := ⟨_, rfl⟩
  have HI := Aside0.mk (Kd.R_reads' HO6.out).2.2
  have HFAR : Aside0 (∀ ad, A8 = some ad → w.heap.size < ad.block) := ⟨fun ad h => by subst h; have := Kd.R_base HO6.out ad.block (by simp [Value.ownBlock]); omega⟩
  have hmax : n8 ≤ 1000 := by rw [hn8, List.length_append, ← HN2.out]; show 1 + n2 ≤ 1000; omega
  have HN8 := Aside0.mk hn8
  rw [← hn8] at HI ⊢
  clear hn8 HO6 hx0 hx1 hx3
  have HS6 := Aside0.mk (HS.out.below HB6.out)
  obtain ⟨nm, hnm⟩ : ∃ nm, nm = m.length := ⟨_, rfl⟩
  have HNM := Aside0.mk hnm
  rw [← hnm] at HS6 hm ⊢
  clear hnm
  go_wp2_with fail
  go_loopg [10, 11] (n8 + 1) (fun kq v10 v11 w' => ∃ (i : Nat) (code : Int) (m1 : List Was), v11 = .int .i64 i ∧ v10 = .int .i64 code ∧ Aside0 (i + kq = n8 + 1) ∧ i ≤ n8 ∧ Aside0 (m1.length = nm) ∧ Aside0 (∀ x ∈ m1, x.f1.length ≤ 1000) ∧ Aside0 (Kd.R k55 55 w' base N (.slice A1 nm c1) m1) ∧ Aside0 (Kp N w6 w'))
  case atStart => exact ⟨0, 0, m, rfl, rfl, ⟨by omega⟩, Nat.zero_le _, ⟨HNM.out.symm⟩, HMW, ⟨HS6.out.now⟩, ⟨Kp.refl _ _⟩⟩
  case round =>
    obtain ⟨i, code, m1, rfl, rfl, HK, hi, HML, HW1, HR, HP⟩ := hrel
    cases gk with
    | zero => exact absurd HK.out (by omega)
    | succ k1 =>
      by_cases hil : i < n8
      · by_cases hc0 : code = 0
        · subst hc0
          obtain ⟨ad, e0, hx⟩ := Kd.at_int HI.out (i : Int) (by omega) (by omega)
          cases e0
          simp only [Int.toNat_natCast] at hx
          have hx2 : wr.cell? (ad.add i) = some (.int .i64 (rd ([id] ++ more) (i : Int))) := HP.out.cell hx (by rw [add_block]; intro h; have := HS.out.ltN _ h; have := HFAR.out ad rfl; omega)
          clear hx
          generalize rd ([id] ++ more) (i : Int) = idq at hx2
          have hilz : (i : Int) < (n8 : Int) := by omega
          obtain ⟨r, ⟨K, hK⟩, hr⟩ := find_at m1 idq (by rw [HML.out]; omega)
          have hcall := affluxlaw22_find.calls K A1 c1 m1 idq r wr (by have := Kd.R_reads' HR.out; exact this.2.2) (by have := Kd.R_reads' HR.out; rw [← this.1]; exact this.2.1) (hK K (Nat.le_refl _))
          rw [HML.out] at hcall
          go_wp2_with fail
          refine hcall.mono ?_
          rintro e w7 ⟨rfl, hd⟩
          have hb := hd.below
          have HR7 := Aside0.mk (Kd.R_below HR.out hb)
          have HP7 := Aside0.mk (HP.out.trans (Kp.of_below hb))
          clear hcall hK hb hd hx2 HR HP
          rcases hr with hneg | ⟨k, rfl, hkl⟩
          · go_wp2
            go_roundg k1
            case measure => have := HK.out; omega
            case rel => exact ⟨i + 1, 8, m1, by go_num, rfl, ⟨by have := HK.out; omega⟩, by omega, HML, HW1, HR7, HP7⟩
          · obtain ⟨ad2, A2, c2, e2, hz0, hz1, hz2, hl2, hi2⟩ := at_T55 (Kd.R_reads' HR7.out).2.2 (k : Int) (by omega) (by omega)
            cases e2
            simp only [Int.toNat_natCast] at hz0 hz1 hz2
            clear hl2 hi2 hz0 hz1
            obtain ⟨y, hy⟩ : ∃ y, y = rd_T55 m1 (k : Int) := ⟨_, rfl⟩
            rw [← hy] at hz2
            have HY := Aside0.mk hy
            clear hy
            have hkz : (k : Int) < (nm : Int) := by have := HML.out; omega
            cases hyf : y.f2 with
            | true =>
              rw [hyf] at hz2
              go_wp2
              go_roundg k1
              case measure => have := HK.out; omega
              case rel => exact ⟨i + 1, 8, m1, by go_num, rfl, ⟨by have := HK.out; omega⟩, by omega, HML, HW1, HR7, HP7⟩
            | false =>
              rw [hyf] at hz2
              obtain ⟨b, ⟨K, hK⟩⟩ := lready_at m1 k hkl (by rw [HML.out]; omega) HW1.out
              have hcall := affluxlaw22_ready.calls K (some ad2) c1 m1 (k : Int) b w7 (by have := Kd.R_reads' HR7.out; exact this.2.2) (by have := Kd.R_reads' HR7.out; rw [← this.1]; exact this.2.1) (hK K (Nat.le_refl _))
              rw [HML.out] at hcall
              go_wp2_with fail
              refine hcall.mono ?_
              rintro e w8 ⟨rfl, hd⟩
              have hb := hd.below
              have HR8 := Aside0.mk (Kd.R_below HR7.out hb)
              have HP8 := Aside0.mk (HP7.out.trans (Kp.of_below hb))
              clear hcall hK hb hd hz2 HR7 HP7
              cases b with
              | false =>
                go_wp2
                go_roundg k1
                case measure => have := HK.out; omega
                case rel => exact ⟨i + 1, 18, m1, by go_num, rfl, ⟨by have := HK.out; omega⟩, by omega, HML, HW1, HR8, HP8⟩
              | true =>
                obtain ⟨gr, _, ef, _, _, _⟩ := Kd.R_form HR8.out (by omega)
                injection ef with ef1 ef2 ef3
                injection ef1 with ef1
                subst ef1
                clear ef2 ef3
                have hkm : (k : Int) < (nm : Int) := hkz
                obtain ⟨cc, hcl, hM, hcc, hfz⟩ := Kd.R_elem HR8.out z55 (k : Int) (by omega) (by omega)
                have hy2 : m1.getD (k : Int).toNat z55 = y := HY.out.symm
                rw [hy2] at hM
                obtain ⟨v0, rfl, hR0⟩ := k55_openM hM
                have HR0 := Aside0.mk hR0
                have HGN := Aside0.mk (HR8.out.1 gr (by simp [Value.ownBlock]))
                have hadd : (⟨gr, 0, none⟩ : Addr).add (k * 3) = ⟨gr, k * 3, none⟩ := by rw [add_at, Nat.zero_add]
                have HCC := Aside0.mk hcc
                have HW2 : Aside0 (∀ x ∈ m1.set k ⟨y.f0, y.f1, true⟩, x.f1.length ≤ 1000) := ⟨fun x hx => by
                  rcases List.mem_or_eq_of_mem_set hx with h | h
                  · exact HW1.out x h
                  · rw [h]; show y.f1.length ≤ 1000; rw [HY.out, rd55_at m1 k hkl]; exact HW1.out _ (List.getElem_mem hkl)⟩
                clear hM hcl hcc hfz hR0 hy2
                go_wp2_with (first | ((with_reducible refine gate_store (t := 4) (p := 74) rfl ?_); refine Kd.R_store k55 (w0 := w8) base rfl rfl 4 (.tmp 74) (.const (.bool true)) rfl 55 (k : Int) 2 m1 ⟨y.f0, y.f1, true⟩ (.bool true) [.bool true] [.int .i64 y.f0, v0, .bool y.f2] N (fun q => N q ∧ q ≠ gr) ?so rfl rfl rfl info4 (fun q hq => by rcases List.mem_singleton.1 hq with rfl; rfl) HR8.out (by omega) (by omega) rfl HCC.out (Nat.le_refl _) (k55_mkM _ _ _ ⟨y.f0, y.f1, true⟩ HR0.out) (fun _ hk => hk) (Below.refl _ _) ?_; (case so => rfl); intro w9 ho hb hg_; rw [Int.toNat_natCast] at ho; have HO9 := Aside0.mk ho; have HG9 := Aside0.mk hg_; clear ho hb hg_))
                have HP9 := Aside0.mk (HP8.out.trans (Kp.of_grown HG9.out (fun q hq => by rw [← Option.some.inj hq]; exact HGN.out)))
                go_roundg k1
                case measure => have := HK.out; omega
                case rel => exact ⟨i + 1, 0, m1.set k ⟨y.f0, y.f1, true⟩, by go_num, rfl, ⟨by have := HK.out; omega⟩, by omega, ⟨by rw [List.length_set]; exact HML.out⟩, HW2, HO9, HP9⟩
        · have hcall := grant_step base g S N l (.slice A1 nm c1) m1 ([id] ++ more) A8 c8 wr (HS6.out.renew HP.out HR.out) (by rw [← HN8.out]; exact C_int_kp HI.out HP.out (fun ad h hn => by have := HS.out.ltN _ hn; have := HFAR.out ad h; omega)) (fun ad h hs => by have := HS.out.ltS _ hs; have := HFAR.out ad h; omega) (by omega)
          rw [← HN8.out, show (grantL l ([id] ++ more)).2 = lx from HLX.out.symm] at hcall
          generalize (grantL l ([id] ++ more)).1 = gcode at hcall
          go_wp2_with fail
          refine hcall.mono ?_
          rintro e w10 ⟨rfl, ⟨S10, hs10⟩, hb10⟩
          have HS10 := Aside0.mk hs10
          have HB10 := Aside0.mk ((below_kpN (HB6.out.mono HS.out.base_le) HS6.out.base_le HP.out (fun k hn => HS.out.geN k hn)).trans hb10)
          clear hs10 hb10 hcall
          go_wp2
          all_goals
            go_ret2
            exact ⟨_, m1, S10, N, _, rfl, HS10.out, by rw [HML.out, HNM.out]; omega, HW1.out, HB10.out⟩
      · have hcall := grant_step base g S N l (.slice A1 nm c1) m1 ([id] ++ more) A8 c8 wr (HS6.out.renew HP.out HR.out) (by rw [← HN8.out]; exact C_int_kp HI.out HP.out (fun ad h hn => by have := HS.out.ltN _ hn; have := HFAR.out ad h; omega)) (fun ad h hs => by have := HS.out.ltS _ hs; have := HFAR.out ad h; omega) (by omega)
        rw [← HN8.out, show (grantL l ([id] ++ more)).2 = lx from HLX.out.symm] at hcall
        generalize (grantL l ([id] ++ more)).1 = gcode at hcall
        go_wp2_with fail
        refine hcall.mono ?_
        rintro e w10 ⟨rfl, ⟨S10, hs10⟩, hb10⟩
        have HS10 := Aside0.mk hs10
        have HB10 := Aside0.mk ((below_kpN (HB6.out.mono HS.out.base_le) HS6.out.base_le HP.out (fun k hn => HS.out.geN k hn)).trans hb10)
        clear hs10 hb10 hcall
        go_wp2
        all_goals
          go_ret2
          exact ⟨_, m1, S10, N, _, rfl, HS10.out, by rw [HML.out, HNM.out]; omega, HW1.out, HB10.out⟩
end Go.Proofs.Ytbpadimcnamdpaa.PK
/- lock: the law's does: a free. -/
namespace Go.Proofs.Ytbpadimcnamdpaa.PK
open Go.RowKit Go.Proofs.YtbpadimcnamdpaaW.PrintWords Go.Proofs.YtbpadimcnamdpaaW.PrintLast Go.Proofs.YtbpadimcnamdpaaW.PrintMore
/-- The rows of a row of one's own, read as they were made. -/
def kM (W : World) (base : Nat) (ok : Nat → Prop) : Kd Was where
  sz := 3
  E := []
  K := fun _ x cs => k55.M W base ok x cs
  M := fun _ _ _ x cs => k55.M W base ok x cs
  K_len := fun h => k55.K_len (k55.K_of_M h)
  K_one := fun h => k55.K_one (k55.K_of_M h)
  K_below := fun _ h => h
  K_of_M := fun h => h
  M_mono := fun _ h => h
  M_bound := fun h => h
  M_move := fun _ h => h
  M_lower := fun _ h => h
theorem R_M {w : World} {base n c : Nat} {ok : Nat → Prop} {A : Option Addr} {xs : List Was} (h : Kd.R k55 55 w base ok (.slice A n c) xs) : (kM w base ok).C w A xs.length xs := by
  obtain ⟨A', c', he, hl, hr⟩ := OwnRow.reads h.2
  injection he with h1 h2 h3
  subst h1
  exact hr.imp_ (Below.refl _ _) (fun _ _ hp => k55.M_mono (fun k hk => hk.1) hp)
theorem R_M_take {w : World} {base n c : Nat} {ok : Nat → Prop} {A : Option Addr} {xs : List Was} (h : Kd.R k55 55 w base ok (.slice A n c) xs) (k : Nat) (hk : k ≤ xs.length) : (kM w base ok).C w A k (xs.take k) := by
  have h1 := Kd.C_take (R_M h) hk
  rwa [List.length_take_of_le hk] at h1
theorem R_M_drop {w : World} {base n c : Nat} {ok : Nat → Prop} {A : Option Addr} {xs : List Was} (h : Kd.R k55 55 w base ok (.slice A n c) xs) (k : Nat) (hk : k ≤ xs.length) (hc : xs.length ≤ c) : (kM w base ok).C w (if c = k then A else A.map (·.add (k * 3))) (xs.length - k) (xs.drop k) := by
  have h1 := Kd.C_drop (R_M h) hk hc
  rwa [List.length_drop] at h1
set_option maxHeartbeats 4000000 in
set_option maxRecDepth 100000 in
theorem does2_calls (base g : Nat) (S N : Nat → Prop) (l : List Ask) (v : Value) (m : List Was) (A2 A3 : Option Addr) (c2 c3 : Nat) (kd id : Int) (more : List Int) (ws : List W) (w : World)
    (hk0 : ¬ kd = 0) (hk1 : ¬ kd = 1) (hS : St w base S N g l v m) (h2 : Kd.C (Kd.int .i64) w A2 more.length more) (h3 : ∀ w', Below base w w' → Kd.C k31 w' A3 ws.length ws) (hc3 : ws.length ≤ c3) (hm2 : more.length ≤ 10) (hw3 : ws.length ≤ 10) (hl : l.length ≤ 1000) (hm : m.length ≤ 1000) (hmw : ∀ x ∈ m, x.f1.length ≤ 1000) :
    Calls Try.prog 14 #[.pointer (some ⟨g, 0, none⟩), v, .agg #[.int .i64 kd, .int .i64 id, .slice A2 more.length c2, .slice A3 ws.length c3]] w (DoesPost w base g (freeL l (id :: more)).2 m) := by
  have hkb0 : (kd == 0) = false := beq_eq_false_iff_ne.2 hk0
  have hkb1 : (kd == 1) = false := beq_eq_false_iff_ne.2 hk1
  have HS := Aside0.mk hS
  have H2 := Aside0.mk h2
  have H3F := Aside0.mk h3
  have H3 := Aside0.mk (h3 w (Below.refl _ _))
  have HMW := Aside0.mk hmw
  obtain ⟨A1, c1, e1⟩ := Kd.R_slice hS.now
  subst e1
  clear hS h2 h3 hmw
  obtain ⟨n2, hn2⟩ : ∃ n2, n2 = more.length := ⟨_, rfl⟩
  obtain ⟨n3, hn3⟩ : ∃ n3, n3 = ws.length := ⟨_, rfl⟩
  rw [← hn2] at H2 hm2 ⊢
  rw [← hn3] at H3 hw3 hc3 ⊢
  have HN2 := Aside0.mk hn2
  have HN3 := Aside0.mk hn3
  clear hn2 hn3
  obtain ⟨lx, hlx⟩ : ∃ lx, lx = (freeL l (id :: more)).2 := ⟨_, rfl⟩
  rw [← hlx]
  have HLX := Aside0.mk hlx
  clear hlx
  go_enter Try.func14, Try.ntmps14
  obtain ⟨bx, hbx⟩ : ∃ bx : Obj, bx = .cells #[.int .i64 kd, .int .i64 id, .slice A2 n2 c2, .slice A3 n3 c3] 26 := ⟨_, rfl⟩
  have HBX := Aside0.mk hbx
  clear hbx
  go_wp2_with (first | ((with_reducible refine gate_builtin (b := .append) (xs := #[.tmp 19, .tmp 21]) rfl ?_); at_builtin; rw [← HBX.out]; refine Kd.R_append_rows (Kd.int .i64) (w0 := w.alloc bx) (w.heap.size + 1) rfl (.tmp 19) (.tmp 21) 24 3 (.int .i64 0) 8 rfl Try.underlying24 info3 rfl (by decide) (by omega) (.slice (some ⟨w.heap.size + 1, 0, none⟩) 1 1) [id] more A2 n2 c2 (fun _ => True) (fun _ => False) (by first | rfl | (simp [Act.eval, Act.put, World.alloc])) rfl (R_one (blk_new2 w _ _) (Nat.le_refl _)) (Kd.C_alloc (Kd.C_alloc H2.out _) _) (fun x cs h => h) (fun _ hk => hk.elim) (fun _ _ => trivial) (below_alloc' (w.heap.size + 1) _ _ (Nat.le_of_eq (alloc_size w bx).symm)) (by rw [alloc_size, alloc_size]; omega) (by simp; omega) ?_; intro v8 w6 ho6 hb6 hg_ hat_; clear hg_ hat_; have HO6 := Aside0.mk ho6; have hbb := (hb6.block w.heap.size (by omega)).trans (blk_new w bx); rw [HBX.out] at hbb; have HBB := Aside0.mk hbb; have HSZ := Aside0.mk hb6.size; have HB6 := Aside0.mk (below_alloc1 hb6); have hx0 : w6.cell? ⟨w.heap.size, 0, none⟩ = some (.int .i64 kd) := blk_cell hbb 0; have hx1 : w6.cell? ⟨w.heap.size, 1, none⟩ = some (.int .i64 id) := blk_cell hbb 1; have hx3 : w6.cell? ⟨w.heap.size, 3, none⟩ = some (.slice A3 n3 c3) := blk_cell hbb 3; clear ho6 hb6 hbb))
  obtain ⟨A8, c8, e8⟩ := Kd.R_slice HO6.out
  subst e8
  obtain ⟨n8, hn8⟩ : ∃ n8, n8 = ([id] ++ more).length := ⟨_, rfl⟩
  have HI := Aside0.mk (Kd.R_reads' HO6.out).2.2
  have HFAR : Aside0 (∀ ad, A8 = some ad → w.heap.size < ad.block) := ⟨fun ad h => by subst h; have := Kd.R_base HO6.out ad.block (by simp [Value.ownBlock]); omega⟩
  have hmax : n8 ≤ 1000 := by rw [hn8, List.length_append, ← HN2.out]; show 1 + n2 ≤ 1000; omega
  have HN8 := Aside0.mk hn8
  rw [← hn8] at HI ⊢
  clear hn8 HO6 hx0 hx1 hx3
  have HS6 := Aside0.mk (HS.out.below HB6.out)
  obtain ⟨nm, hnm⟩ : ∃ nm, nm = m.length := ⟨_, rfl⟩
  have HNM := Aside0.mk hnm
  rw [← hnm] at HS6 hm ⊢
  clear hnm
  go_wp2_with fail
  go_loopg [1, 13, 14] (n8 + 1) (fun kq v1 v13 v14 w' => ∃ (i : Nat) (code : Int) (m1 : List Was), v14 = .int .i64 i ∧ v13 = .int .i64 code ∧ Aside0 (i + kq = n8 + 1) ∧ i ≤ n8 ∧ m1.length ≤ nm ∧ Aside0 (∀ x ∈ m1, x.f1.length ≤ 1000) ∧ Aside0 (Kd.R k55 55 w' base (fun q => N q ∨ w.heap.size ≤ q) v1 m1) ∧ Aside0 (Below w6.heap.size w6 w'))
  case atStart => exact ⟨0, 0, m, rfl, rfl, ⟨by omega⟩, Nat.zero_le _, by rw [HNM.out]; exact Nat.le_refl _, HMW, ⟨Kd.R_mono HS6.out.now (fun _ h => .inl h)⟩, ⟨Below.refl _ _⟩⟩
  case round =>
    obtain ⟨i, code, m1, rfl, rfl, HK, hi, hml, HW1, HR, HP⟩ := hrel
    obtain ⟨A1, c1, e1⟩ := Kd.R_slice HR.out
    subst e1
    cases gk with
    | zero => exact absurd HK.out (by omega)
    | succ k1 =>
      obtain ⟨m1n, hm1n⟩ : ∃ m1n, m1n = m1.length := ⟨_, rfl⟩
      have HML := Aside0.mk hm1n
      rw [← hm1n] at hml HR ⊢
      clear hm1n
      by_cases hil : i < n8
      · by_cases hc0 : code = 0
        · subst hc0
          obtain ⟨ad, e0, hx⟩ := Kd.at_int (Kd.C_below HI.out HP.out) (i : Int) (by omega) (by omega)
          cases e0
          simp only [Int.toNat_natCast] at hx
          generalize rd ([id] ++ more) (i : Int) = idq at hx
          have hilz : (i : Int) < (n8 : Int) := by omega
          obtain ⟨r, ⟨K, hK⟩, hr⟩ := find_at m1 idq (by rw [← HML.out]; omega)
          have hcall := affluxlaw22_find.calls K A1 c1 m1 idq r wr (by have := Kd.R_reads' HR.out; exact this.2.2) (by have := Kd.R_reads' HR.out; rw [← this.1]; exact this.2.1) (hK K (Nat.le_refl _))
          rw [← HML.out] at hcall
          go_wp2_with fail
          refine hcall.mono ?_
          rintro e w7 ⟨rfl, hd⟩
          have hb := hd.below
          have HR7 := Aside0.mk (Kd.R_below HR.out hb)
          have HP7 := Aside0.mk (below_step HP.out hb)
          clear hcall hK hb hd hx HR HP
          rcases hr with hneg | ⟨k, rfl, hkl⟩
          · go_wp2
            go_roundg k1
            case measure => have := HK.out; omega
            case rel => exact ⟨i + 1, 8, m1, by go_num, rfl, ⟨by have := HK.out; omega⟩, by omega, by rw [← HML.out]; exact hml, HW1, HR7, HP7⟩
          · have hkn : k < m1n := by have := HML.out; omega
            have hnc := (Kd.R_reads' HR7.out).2.1
            obtain ⟨gr, _, ef, _, _, _⟩ := Kd.R_form HR7.out (by omega)
            injection ef with ef1 ef2 ef3
            subst ef1
            clear ef2 ef3
            have hkc : k ≤ c1 := by omega
            have hk1n : k + 1 ≤ m1n := by omega
            have hi1 : (0 : Int) ≤ (k : Int) + 1 := by omega
            have hi2 : (k : Int) + 1 ≤ (m1n : Int) := by omega
            have hbase7 : base ≤ w7.heap.size := Nat.le_trans HS6.out.base_le HP7.out.size
            have HLE6 := Aside0.mk (Nat.le_trans HB6.out.size HP7.out.size)
            have HRB := Aside0.mk (Kd.R_bound HR7.out)
            have HT := Aside0.mk (R_M_take HR7.out k (by have := HML.out; omega))
            have hov : (0 + k) * 40 ≤ 140737488355328 := by omega
            have hovv := hov
            clear hil
            go_wp2_with (first | ((with_reducible refine gate_builtin (b := .append) (xs := #[.tmp 114, .tmp 117]) rfl ?_); at_builtin; refine Kd.R_append_rows k55 (w0 := w7) base rfl (.tmp 114) (.tmp 117) 37 55 (.agg #[.int .i64 0, .slice none 0 0, .bool false]) 40 rfl Try.underlying37 info55 rfl (by decide) (by omega) (.slice none 0 0) [] (m1.take k) (some ⟨gr, 0, none⟩) k c1 (fun q => N q ∨ w.heap.size ≤ q) (fun q => N q ∨ w.heap.size ≤ q) rfl rfl (Kd.R_nil _ _ _ _ _) HT.out (fun x cs h => h) (fun q hq => ⟨hq, by simp [Value.ownBlock]⟩) (fun q hq => .inr (by have := HLE6.out; omega)) (Below.refl _ _) hbase7 (by simp; omega) ?_; intro v8 w8 ho8 hb8 hg8 hat8; have HO8 := Aside0.mk ho8; have HB8 := Aside0.mk ((Below.refl w7.heap.size w7).grown hg8 (Nat.le_refl _) (by intro q hq; simp [Value.ownBlock] at hq)); have HAT8 : Aside0 (∀ q, v8.ownBlock = some q → w7.heap.size ≤ q) := ⟨by intro q hq; rcases hat8 with h | ⟨b, h, hb⟩; rw [h] at hq; simp [Value.ownBlock] at hq; rw [h] at hq; injection hq with hq; omega⟩; have HD : Aside0 ((kM w8 base (fun q => (N q ∨ w.heap.size ≤ q) ∧ base ≤ q ∧ q < w7.heap.size ∧ ∃ q_1, q_1 ∈ 55 :: k55.E ∧ ∃ cells, w7.heap[q]? = some (.cells cells q_1 (0, 0)))).C w8 (if c1 = k + 1 then some ⟨gr, 0, none⟩ else some ⟨gr, (k + 1) * 3, none⟩) (m1n - (k + 1)) (m1.drop (k + 1))) := ⟨by have h := R_M_drop (Kd.R_below HRB.out HB8.out) (k + 1) (by have := HML.out; omega) (by have := HML.out; omega); rw [← HML.out] at h; rw [addr_if gr c1 k]; exact h⟩; clear ho8 hb8 hg8 hat8) | ((with_reducible refine gate_builtin (b := .append) (xs := #[.tmp 119, .tmp 123]) rfl ?_); at_builtin; refine Kd.R_append_rows k55 (w0 := w8) base rfl (.tmp 119) (.tmp 123) 37 55 (.agg #[.int .i64 0, .slice none 0 0, .bool false]) 40 rfl Try.underlying37 info55 rfl (by decide) (by omega) v8 ([] ++ m1.take k) (m1.drop (k + 1)) (if c1 = k + 1 then some ⟨gr, 0, none⟩ else some ⟨gr, (k + 1) * 3, none⟩) (m1n - (k + 1)) (c1 - (k + 1)) (fun q => N q ∨ w.heap.size ≤ q) _ rfl rfl HO8.out HD.out (fun x cs h => h) (fun q hq => ⟨hq.1, fun he => by have := HAT8.out q he.symm; have := hq.2.2.1; omega⟩) (fun q hq => .inr (by have := HLE6.out; have := HB8.out.size; omega)) (Below.refl _ _) (Nat.le_trans hbase7 HB8.out.size) (by have := HML.out; rw [List.nil_append, List.length_take]; omega) ?_; intro v9 w9 ho9 hb9 hg9 hat9; have HO9 := Aside0.mk ho9; have HB9 := Aside0.mk (HB8.out.grown hg9 HB8.out.size HAT8.out); clear ho9 hb9 hg9 hat9))
            all_goals
              have HP9 := Aside0.mk (below_step HP7.out HB9.out)
              go_roundg k1
              case measure => have := HK.out; omega
              case rel => exact ⟨i + 1, 0, ([] ++ m1.take k) ++ m1.drop (k + 1), by go_num, rfl, ⟨by have := HK.out; omega⟩, by omega, by have := HML.out; rw [List.nil_append, List.length_append, List.length_take, List.length_drop]; omega, ⟨fun x hx => by rw [List.nil_append] at hx; rcases List.mem_append.1 hx with h | h; exact HW1.out x (List.mem_of_mem_take h); exact HW1.out x (List.mem_of_mem_drop h)⟩, HO9, HP9⟩
        · have hst := HS.out.app (below_step HB6.out HP.out) (v9 := .slice A1 m1n c1) (m9 := m1) (w9 := wr) ⟨rfl, rfl, rfl, Nat.le_refl _, fun _ _ _ => rfl⟩ HR.out
          have hcall := free_step base g S _ l (.slice A1 m1n c1) m1 ([id] ++ more) A8 c8 wr hst (by rw [← HN8.out]; exact Kd.C_below HI.out HP.out) (fun ad h hs => by have := HS.out.ltS _ hs; have := HFAR.out ad h; omega) (by omega)
          rw [← HN8.out, show (freeL l ([id] ++ more)).2 = lx from HLX.out.symm] at hcall
          generalize (freeL l ([id] ++ more)).1 = gcode at hcall
          clear hst
          go_wp2_with fail
          refine hcall.mono ?_
          rintro e w10 ⟨rfl, ⟨S10, hs10⟩, hb10⟩
          have HS10 := Aside0.mk hs10
          have HB10 := Aside0.mk (((HB6.out.mono HS.out.base_le).trans (HP.out.mono HS6.out.base_le)).trans hb10)
          clear hs10 hb10 hcall
          go_wp2
          all_goals
            go_ret2
            exact ⟨_, m1, S10, _, _, rfl, HS10.out, by rw [← HML.out, ← HNM.out]; omega, HW1.out, HB10.out⟩
      · have hst := HS.out.app (below_step HB6.out HP.out) (v9 := .slice A1 m1n c1) (m9 := m1) (w9 := wr) ⟨rfl, rfl, rfl, Nat.le_refl _, fun _ _ _ => rfl⟩ HR.out
        have hcall := free_step base g S _ l (.slice A1 m1n c1) m1 ([id] ++ more) A8 c8 wr hst (by rw [← HN8.out]; exact Kd.C_below HI.out HP.out) (fun ad h hs => by have := HS.out.ltS _ hs; have := HFAR.out ad h; omega) (by omega)
        rw [← HN8.out, show (freeL l ([id] ++ more)).2 = lx from HLX.out.symm] at hcall
        generalize (freeL l ([id] ++ more)).1 = gcode at hcall
        clear hst
        go_wp2_with fail
        refine hcall.mono ?_
        rintro e w10 ⟨rfl, ⟨S10, hs10⟩, hb10⟩
        have HS10 := Aside0.mk hs10
        have HB10 := Aside0.mk (((HB6.out.mono HS.out.base_le).trans (HP.out.mono HS6.out.base_le)).trans hb10)
        clear hs10 hb10 hcall
        go_wp2
        all_goals
          go_ret2
          exact ⟨_, m1, S10, _, _, rfl, HS10.out, by rw [← HML.out, ← HNM.out]; omega, HW1.out, HB10.out⟩
end Go.Proofs.Ytbpadimcnamdpaa.PK
/- lock: the law's does, whatever the act. -/
namespace Go.Proofs.Ytbpadimcnamdpaa.PK
open Go.RowKit Go.Proofs.YtbpadimcnamdpaaW.PrintWords Go.Proofs.YtbpadimcnamdpaaW.PrintLast Go.Proofs.YtbpadimcnamdpaaW.PrintMore
theorem does_calls (base g : Nat) (S N : Nat → Prop) (l : List Ask) (v : Value) (m : List Was) (A2 A3 : Option Addr) (c2 c3 : Nat) (a : Act_) (w : World)
    (hS : St w base S N g l v m) (h2 : Kd.C (Kd.int .i64) w A2 a.f2.length a.f2) (h3 : ∀ w', Below base w w' → Kd.C k31 w' A3 a.f3.length a.f3) (hc3 : a.f3.length ≤ c3) (hm2 : a.f2.length ≤ 10) (hw3 : a.f3.length ≤ 10) (hl : l.length ≤ 1000) (hm : m.length ≤ 1000) (hmw : ∀ x ∈ m, x.f1.length ≤ 1000) :
    Calls Try.prog 14 #[.pointer (some ⟨g, 0, none⟩), v, .agg #[.int .i64 a.f0, .int .i64 a.f1, .slice A2 a.f2.length c2, .slice A3 a.f3.length c3]] w (DoesPost w base g (stepL l a) m) := by
  unfold stepL
  by_cases h0 : a.f0 = 0
  · rw [if_pos h0, h0]
    exact does0_calls base g S N l v m A2 A3 c2 c3 a.f1 a.f2 a.f3 w hS h2 h3 hc3 hm2 hw3 hl hm hmw
  · rw [if_neg h0]
    by_cases h1 : a.f0 = 1
    · rw [if_pos h1, h1]
      exact does1_calls base g S N l v m A2 A3 c2 c3 a.f1 a.f2 a.f3 w hS h2 h3 hc3 hm2 hw3 hl hm hmw
    · rw [if_neg h1]
      exact does2_calls base g S N l v m A2 A3 c2 c3 a.f0 a.f1 a.f2 a.f3 w h0 h1 hS h2 h3 hc3 hm2 hw3 hl hm hmw
end Go.Proofs.Ytbpadimcnamdpaa.PK
