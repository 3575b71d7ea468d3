/- Texts of this claim, joined: Opens, Row, SnLong. -/
import Derived.Test.YtcbbdkennmopdaaGreatDoorWWords
import Derived.Test.YtcbbdkennmopdaaGreatDoorWLast
import Derived.Deep.Slices
import Derived.ProofKit
import Derived.Carry
import Derived.KernelRfl
import Derived.Test.YtcbbdkennmopdaaGreatDoorRows
import Derived.Test.YtcbbdkennmopdaaGreatDoorSumWalk
import Derived.LaidMore
import Derived.LaidHandle
import Derived.MakeChecks
import Derived.OpenShut
import Derived.Stop.Joined
import Derived.Test.YtcbbdkennmopdaaGreatDoorSnB2
set_option linter.unusedSimpArgs false
set_option linter.unusedVariables false
/- What an argument reads as, opened by its type: whole numbers, truths, texts, slices, structs, as deep as the type goes. -/
namespace Go.Proofs.YtcbbdkennmopdaaGreatDoor
open Go.RowKit Go.Proofs.YtcbbdkennmopdaaGreatDoorW.PrintWords
namespace Opens
/-- Cells of type t that can be read as data hold a value of kind d, and it is good. -/
structure Opn (P : Program) (t : TypeId) {α : Type} (d : Kd α) (good : α → Prop) : Prop where
  size : P.cellsOf t = d.sz
  op : ∀ {H : Type} (enc : TypeId × Value → H) (W : World) (fuel : Nat) (cs : List Value) (y : DataW H × List MemPlace), DataW.trod enc P W 0 (fun _ => true) true fuel t cs = some y → ∃ x, d.K W x cs ∧ good x
theorem Opn.weaken {P : Program} {t : TypeId} {α : Type} {d : Kd α} {good good' : α → Prop} (h : Opn P t d good) (hg : ∀ x, good x → good' x) : Opn P t d good' :=
  ⟨h.size, fun enc W fuel cs y hy => let ⟨x, hk, hx⟩ := h.op enc W fuel cs y hy; ⟨x, hk, hg x hx⟩⟩
theorem opn_int {P : Program} {t : TypeId} {k : IntKind} (ht : P.underlying t = some (.int k)) (hc : P.cellsOf t = 1) : Opn P t (Kd.int k) (fun n => (Lit.int k n).wf = true) := by
  refine ⟨hc, fun enc W fuel cs y h => ?_⟩
  cases fuel with
  | zero => simp [DataW.trod] at h
  | succ n =>
    unfold DataW.trod at h
    rw [ht] at h
    split at h <;> simp_all
    obtain ⟨⟨rfl, hw⟩, _⟩ := h
    exact ⟨_, rfl, hw⟩
theorem opn_bool {P : Program} {t : TypeId} (ht : P.underlying t = some .bool) (hc : P.cellsOf t = 1) : Opn P t Kd.bool (fun _ => True) := by
  refine ⟨hc, fun enc W fuel cs y h => ?_⟩
  cases fuel with
  | zero => simp [DataW.trod] at h
  | succ n =>
    unfold DataW.trod at h
    rw [ht] at h
    split at h <;> first | exact ⟨_, rfl, trivial⟩ | simp_all
theorem opn_string {P : Program} {t : TypeId} (ht : P.underlying t = some .string) (hc : P.cellsOf t = 1) : Opn P t Kd.string (fun s => s.size ≤ maxLen) := by
  refine ⟨hc, fun enc W fuel cs y h => ?_⟩
  cases fuel with
  | zero => simp [DataW.trod] at h
  | succ n =>
    unfold DataW.trod at h
    rw [ht] at h
    split at h <;> simp_all
    exact ⟨_, rfl, h.1⟩
theorem opn_slice {P : Program} {t e : TypeId} {α : Type} {d : Kd α} {good : α → Prop} (ht : P.underlying t = some (.slice e)) (hc : P.cellsOf t = 1) (h : Opn P e d good) : Opn P t (Kd.slice e d) (fun xs => xs.length ≤ maxLen ∧ ∀ x ∈ xs, good x) := by
  refine ⟨hc, fun enc W fuel cs y hy => ?_⟩
  rcases Go.Deep.open_slice ht hy with ⟨rfl, _⟩ | ⟨a, len, cap, m, n, D, Pl, rfl, _, hl, hcap, hm, _, hel⟩
  · exact ⟨[], ⟨none, 0, rfl, Nat.le_refl _, rfl, Nat.zero_le _, fun h0 => absurd h0 (Nat.lt_irrefl _)⟩, Nat.zero_le _, by simp⟩
  have hmm : m = cap := by rw [hm]; rfl
  subst hmm
  have hx : ∀ i, i < len → ∃ x, (∃ cs', W.cells? 0 (a.add (i * P.cellsOf e)) (P.cellsOf e) = some cs' ∧ d.K W x cs') ∧ good x := fun i hi => by
    obtain ⟨cs', h1, h2⟩ := hel i (by omega)
    obtain ⟨x, hk, hg⟩ := h.op enc W n cs' _ h2
    exact ⟨x, ⟨cs', h1, hk⟩, hg⟩
  have hall : ∀ k, k ≤ len → ∃ xs : List α, xs.length = k ∧ (∀ (j : Nat) p, xs[j]? = some p → ∃ cs', W.cells? 0 (a.add (j * P.cellsOf e)) (P.cellsOf e) = some cs' ∧ d.K W p cs') ∧ ∀ x ∈ xs, good x := by
    intro k
    induction k with
    | zero => intro _; exact ⟨[], rfl, by simp, by simp⟩
    | succ k ih =>
      intro hk
      obtain ⟨xs, hlen, hcells, hgood⟩ := ih (by omega)
      obtain ⟨x, hxk, hxg⟩ := hx k (by omega)
      refine ⟨xs ++ [x], by simp [hlen], fun j p hj => ?_, fun z hz => ?_⟩
      · by_cases hjk : j < xs.length
        · rw [List.getElem?_append_left hjk] at hj
          exact hcells j p hj
        · have hje : j = k := by
            have := (List.getElem?_eq_some_iff.1 hj).1
            simp at this; omega
          subst hje
          rw [List.getElem?_append_right (by omega), hlen, Nat.sub_self] at hj
          obtain rfl : x = p := by simpa using hj
          exact hxk
      · rcases List.mem_append.1 hz with hz | hz
        · exact hgood z hz
        · rw [List.mem_singleton.1 hz]; exact hxg
  obtain ⟨xs, hlen, hcells, hgood⟩ := hall len (Nat.le_refl _)
  subst hlen
  refine ⟨xs, ⟨some a, m, rfl, hl, rfl, ?_, fun h0 => ⟨a, rfl, fun j p hj => ?_⟩⟩, by omega, hgood⟩
  · unfold maxLen at hcap; omega
  · obtain ⟨cs', h1, hk⟩ := hcells j p hj
    rw [h.size] at h1
    obtain ⟨_, hlen, hget⟩ := World.cells?_some h1
    refine ⟨cs', d.K_len hk, hk, fun i u hu => ?_⟩
    have hi : i < d.sz := by rw [← hlen]; exact (List.getElem?_eq_some_iff.1 hu).1
    have := hget i hi
    rw [hu, add_add] at this
    exact this
/-- Fields, the first of which begins at cell o. -/
structure OpnF (P : Program) (fs : List Field) (o : Nat) {α : Type} (d : Kd α) (good : α → Prop) : Prop where
  op : ∀ {H : Type} (enc : TypeId × Value → H) (W : World) (fuel : Nat) (cs : List Value) (ys : List (DataW H × List MemPlace)), cs.length = o + d.sz → (fs.mapM fun f => DataW.trod enc P W 0 (fun _ => true) true fuel f.type ((cs.drop f.offset).take (P.cellsOf f.type))) = some ys → ∃ x, d.K W x (cs.drop o) ∧ good x
theorem opnF_one {P : Program} {f : Field} {o : Nat} {α : Type} {d : Kd α} {good : α → Prop} (ho : f.offset = o) (h : Opn P f.type d good) : OpnF P [f] o d good := by
  refine ⟨fun enc W fuel cs ys hl hy => ?_⟩
  simp only [List.mapM_cons, List.mapM_nil, Option.pure_def, Option.bind_eq_bind, Option.bind_eq_some_iff] at hy
  obtain ⟨y, h1, _⟩ := hy
  obtain ⟨x, hk, hg⟩ := h.op enc W fuel _ _ h1
  rw [ho, h.size, List.take_of_length_le (by simp; omega)] at hk
  exact ⟨x, hk, hg⟩
theorem opnF_cons {P : Program} {f : Field} {fs : List Field} {o : Nat} {α β : Type} {a : Kd α} {b : Kd β} {ga : α → Prop} {gb : β → Prop} (ho : f.offset = o) (h : Opn P f.type a ga) (hs : OpnF P fs (o + a.sz) b gb) : OpnF P (f :: fs) o (Kd.pair a b) (fun x => ga x.1 ∧ gb x.2) := by
  refine ⟨fun enc W fuel cs ys hl hy => ?_⟩
  simp only [List.mapM_cons, Option.pure_def, Option.bind_eq_bind, Option.bind_eq_some_iff] at hy
  obtain ⟨y, h1, ys', h2, _⟩ := hy
  obtain ⟨x, hk, hg⟩ := h.op enc W fuel _ _ h1
  have hlz : cs.length = o + a.sz + b.sz := by rw [hl]; exact (Nat.add_assoc _ _ _).symm
  obtain ⟨z, hkz, hgz⟩ := hs.op enc W fuel cs ys' hlz h2
  rw [ho, h.size] at hk
  refine ⟨(x, z), ⟨_, _, ?_, hk, hkz⟩, hg, hgz⟩
  rw [← List.drop_drop, List.take_append_drop]
theorem opn_struct {P : Program} {t : TypeId} {fs : Array Field} {α : Type} {d : Kd α} {good : α → Prop} (ht : P.underlying t = some (.struct fs)) (hc : P.cellsOf t = d.sz) (h : OpnF P fs.toList 0 d good) : Opn P t d good := by
  refine ⟨hc, fun enc W fuel cs y hy => ?_⟩
  cases fuel with
  | zero => simp [DataW.trod] at hy
  | succ n =>
    unfold DataW.trod at hy
    rw [ht] at hy
    simp only [] at hy
    split at hy
    · rename_i hl
      obtain ⟨ys, hys, _⟩ := Option.map_eq_some_iff.1 hy
      have := h.op enc W n cs ys (by rw [hl, hc, Nat.zero_add]) hys
      simpa using this
    · cases hy
theorem opn_iso {P : Program} {t : TypeId} {α β : Type} {d : Kd α} {good : α → Prop} (h : Opn P t d good) (f : β → α) (g : α → β) (hfg : ∀ x, f (g x) = x) : Opn P t (Kd.iso d f) (fun y => good (f y)) := by
  refine ⟨h.size, fun enc W fuel cs y hy => ?_⟩
  obtain ⟨x, hk, hg⟩ := h.op enc W fuel cs y hy
  exact ⟨g x, by show d.K W (f (g x)) cs; rw [hfg]; exact hk, by rw [hfg]; exact hg⟩
/-- An argument, opened. -/
theorem Opn.arg {P : Program} {t : TypeId} {α : Type} {d : Kd α} {good : α → Prop} (h : Opn P t d good) {H : Type} {enc : TypeId × Value → H} {W : World} {v : Value} {y : DataW H} {ps : List MemPlace} (hv : DataW.Trod enc P W 0 (fun _ => true) true t v y ps) : ∃ x, d.K W x v.cells.toList ∧ good x := by
  obtain ⟨fuel, hf⟩ := hv
  exact h.op enc W fuel _ _ hf
/-- A slice that came in. -/
theorem slice_arg {P : Program} {t e : TypeId} {α : Type} {d : Kd α} {good : List α → Prop} (ht : P.underlying t = some (.slice e)) (h : Opn P t (Kd.slice e d) good) {H : Type} {enc : TypeId × Value → H} {W : World} {base : Nat} {v : Value} {y : DataW H} {ps : List MemPlace} (hv : Value.okWide P W .any base t v) (hd : DataW.Trod enc P W 0 (fun _ => true) true t v y ps) : ∃ A c xs, v = .slice A xs.length c ∧ xs.length ≤ c ∧ Kd.C d W A xs.length xs ∧ good xs := by
  obtain ⟨A, len, cap, rfl⟩ := Go.WideShapes.okWide_slice ht hv
  obtain ⟨xs, ⟨A', c', hcs, hl, hC⟩, hg⟩ := h.arg hd
  simp only [Value.cells, List.cons.injEq, Value.slice.injEq, and_true] at hcs
  obtain ⟨rfl, rfl, rfl⟩ := hcs
  exact ⟨A, cap, xs, rfl, hl, hC, hg⟩
/-- A struct that came in by value. -/
theorem struct_arg {P : Program} {t : TypeId} {fs : Array Field} {α : Type} {d : Kd α} {good : α → Prop} (ht : P.underlying t = some (.struct fs)) (h : Opn P t d good) {H : Type} {enc : TypeId × Value → H} {W : World} {base : Nat} {v : Value} {y : DataW H} {ps : List MemPlace} (hv : Value.okWide P W .any base t v) (hd : DataW.Trod enc P W 0 (fun _ => true) true t v y ps) : ∃ cs x, v = .agg cs ∧ d.K W x cs.toList ∧ good x := by
  obtain ⟨cs, rfl, _⟩ := Go.WideShapes.okWide_struct ht hv
  obtain ⟨x, hk, hg⟩ := h.arg hd
  exact ⟨cs, x, rfl, hk, hg⟩
/-- What nothing has touched reads as it did: all arguments at once. -/
theorem trodAll_below {H : Type} {enc : TypeId × Value → H} {P : Program} (hl : laidOutB P = true) {W W' : World} (hb : Below W.heap.size W W') : ∀ (ts : List TypeId) (vs : List Value) (ds : List (DataW H)) (ps : List MemPlace), (∀ t ∈ ts, P.readableRec t = true ∧ t < P.types.size) →
    DataW.TrodAll enc P W 0 (fun _ => true) true ts vs ds ps → (∀ x ∈ ps, x.block < W.heap.size) → DataW.TrodAll enc P W' 0 (fun b => decide (b < W.heap.size)) true ts vs ds ps
  | [], [], [], _, _, h, _ => h
  | t :: ts, v :: vs, d :: ds, ps, ht, h, hlt => by
    obtain ⟨p, q, h1, h2, rfl⟩ := h
    refine ⟨p, q, Below.trod hl (ht t List.mem_cons_self).1 (ht t List.mem_cons_self).2 h1 hb (fun x hx => hlt x (List.mem_append_left _ hx)), ?_, rfl⟩
    exact trodAll_below hl hb ts vs ds q (fun t' h' => ht t' (List.mem_cons_of_mem _ h')) h2 (fun x hx => hlt x (List.mem_append_right _ hx))
theorem trodAll_lt {H : Type} {enc : TypeId × Value → H} {P : Program} {W : World} : ∀ (ts : List TypeId) (vs : List Value) (ds : List (DataW H)) (ps : List MemPlace), DataW.TrodAll enc P W 0 (fun _ => true) true ts vs ds ps → ∀ x ∈ ps, x.block < W.heap.size
  | [], [], [], _, h, x, hx => by rw [show _ = [] from h] at hx; cases hx
  | t :: ts, v :: vs, d :: ds, ps, h, x, hx => by
    obtain ⟨p, q, ⟨fuel, h1⟩, h2, rfl⟩ := h
    rcases List.mem_append.1 hx with hx | hx
    · exact DataW.trod_lt fuel _ _ _ h1 x hx
    · exact trodAll_lt ts vs ds q h2 x hx
end Opens
end Go.Proofs.YtcbbdkennmopdaaGreatDoor
/- From a law's walk to its row: whatever the arguments' types. -/
namespace Go.Proofs.YtcbbdkennmopdaaGreatDoor
open Go.ChangeShapes Go.WideShapes Go.ChangeAt Go.RowKit
theorem ownKnobNone : ownKnob Tryz.prog.godebug = none := by kernel_rfl
theorem laidOutProg : laidOutB Tryz.prog = true := by kernel_rfl
/-- What a law is answered: true, the arguments as they were. -/
theorem post_true {H : Type} {enc : TypeId × Value → H} {fn : Func} {spec : ChangeSpec} {W W' : World} {args : Array Value} {ds gs : List (DataW H)} {before : List MemPlace} (tb : TypeId)
    (hvars : spec.vars = []) (hres : fn.resultTypes = #[tb]) (htb : Tryz.prog.underlying tb = some .bool)
    (hfn : spec.fn H (ds ++ gs) = { results := [.lit (.bool true)], args := ds })
    (hread : (fn.params.toList.all fun t => Tryz.prog.readableRec t && decide (t < Tryz.prog.types.size)) = true)
    (hW : DataW.Whole enc Tryz.prog fn.params.toList spec.vars false W args.toList ds gs before) (hb : Below W.heap.size W W') :
    spec.post enc Tryz.prog fn false true false false W args (.bool true) W' := by
  have hW' := hW
  obtain ⟨p, q, hA, hV, _, _, _⟩ := hW
  rw [hvars] at hV
  obtain ⟨rfl, rfl⟩ := trodVars_none hV
  have hread' : ∀ t ∈ fn.params.toList, Tryz.prog.readableRec t = true ∧ t < Tryz.prog.types.size := fun t ht => by
    have := List.all_eq_true.1 hread t ht
    simpa using this
  refine ⟨ds, [], before, [], p, [], hW', ?_, ?_, ?_, hb.frame _, fun h => by cases h⟩
  · rw [hfn, hres]
    exact trodAll_mk1 (shut_bool htb _)
  · rw [hfn]
    exact Opens.trodAll_below laidOutProg hb _ _ _ _ hread' hA (Opens.trodAll_lt _ _ _ _ hA)
  · rw [hfn, hvars]; rfl
/-- The listed table, where the program keeps it. -/
theorem tab_of_laid {W : World} (h : laidMetH Tryz.prog [("afflux/seal.nibbles", Rows.laid_afflux_seal_nibbles)] W) : SumW.Tab W := by
  rw [MakeChecks.laidMetH_plain _ _ _ (by kernel_rfl)] at h
  obtain ⟨ps, ⟨g0, t0, cs0, f0, p0, q0, hg0, ht0, hv0, hd0, _, _⟩, _, _⟩ := h
  obtain rfl := Option.some.inj ((show Tryz.prog.globalNamed "afflux/seal.nibbles" = some 0 by kernel_rfl).symm.trans hg0)
  obtain rfl := Option.some.inj ((show (Tryz.prog.globals[0]?).map (·.type) = some 219 by kernel_rfl).symm.trans ht0)
  obtain ⟨xs, m1, rfl, hx1, hlen, hn3, hel⟩ := DataW.trod_array Tryz.underlying219 hd0
  have cE : Tryz.prog.cellsOf 163 = 1 := by kernel_rfl
  have cA : Tryz.prog.cellsOf 219 = 16 := by kernel_rfl
  intro i hi
  have hcell := World.var?_cell hg0 hv0 i
  rw [hcell]
  have hx := hel i hi
  rw [cE, Nat.mul_one] at hx
  rw [cA] at hlen
  have hxi : i < xs.length := by omega
  rw [List.getElem?_eq_getElem hxi] at hx
  obtain ⟨n, e1, e2, _⟩ := DataW.trod_int Tryz.underlying163 hx
  have hci : i < cs0.size := by rw [← Array.length_toList, hlen]; exact hi
  have hgi : cs0[i]? = some (.int .u64 n) := by
    have h1 : (List.drop i cs0.toList).take 1 = [cs0[i]] := by
      rw [List.drop_eq_getElem_cons (by simpa using hci)]; rfl
    rw [h1] at e1
    rw [Array.getElem?_eq_getElem hci]
    exact congrArg some (List.cons.inj e1).1
  rw [hgi]
  have hdat : (Rows.laid_afflux_seal_nibbles : DataW Unit) = .agg (xs.map (·.1)) := by
    have := congrArg (·.1) hx1
    exact this
  have hn : (xs.map (·.1))[i]? = some (.lit (.int .u64 n)) := by
    rw [List.getElem?_map, List.getElem?_eq_getElem hxi, e2]; rfl
  have hall : ∀ j : Fin 16, (match (Rows.laid_afflux_seal_nibbles : DataW Unit) with | .agg l => l[j.val]? | _ => none) = some (.lit (.int .u64 (Crc.bv (Crc.nibs.getD j.val 0#64)))) := by
    intro j
    match j with
    | ⟨0, _⟩ => rfl
    | ⟨1, _⟩ => rfl
    | ⟨2, _⟩ => rfl
    | ⟨3, _⟩ => rfl
    | ⟨4, _⟩ => rfl
    | ⟨5, _⟩ => rfl
    | ⟨6, _⟩ => rfl
    | ⟨7, _⟩ => rfl
    | ⟨8, _⟩ => rfl
    | ⟨9, _⟩ => rfl
    | ⟨10, _⟩ => rfl
    | ⟨11, _⟩ => rfl
    | ⟨12, _⟩ => rfl
    | ⟨13, _⟩ => rfl
    | ⟨14, _⟩ => rfl
    | ⟨15, _⟩ => rfl
    | ⟨n + 16, h⟩ => exact absurd h (by omega)
  have h2 := hall ⟨i, hi⟩
  rw [hdat] at h2
  simp only at h2
  rw [hn] at h2
  have h3 := Option.some.inj h2
  have h4 := DataW.lit.inj h3
  have h5 := (Lit.int.inj h4).2
  rw [h5]
set_option maxRecDepth 100000 in
/-- The door's own heap meets the condition. -/
theorem door_met (os : Os) (args : Array Value) : laidMetH Tryz.prog [("afflux/seal.nibbles", Rows.laid_afflux_seal_nibbles)] ((World.doorLaid Tryz.prog 400 os).forCall (fun _ _ => 0) ⟨#[], args, []⟩).memory :=
  laidMetH_of_parts3 (fuel := 8) (laidMet_of_run' 8 (by kernel_rfl) (by kernel_rfl)) (by kernel_rfl) (by kernel_rfl)
end Go.Proofs.YtcbbdkennmopdaaGreatDoor
/- snap: the walk of SnapLong. -/
namespace Go.Proofs.YtcbbdkennmopdaaGreatDoor.PK
open Go.RowKit Go.Proofs.YtcbbdkennmopdaaGreatDoorW.PrintWords Go.Proofs.YtcbbdkennmopdaaGreatDoorW.PrintLast Go.Proofs.YtcbbdkennmopdaaGreatDoorW.PrintMore
open Go.Maps
def zeroS (n : Nat) : ByteArray := strOfNums (List.replicate n 0)
theorem zeroS_size (n : Nat) : (zeroS n).size = n := by
  unfold zeroS strOfNums
  show (List.map _ _).toArray.size = n
  simp
theorem below_grown {w w' : World} (h : w.grownBy w' none) : Below w.heap.size w w' := ⟨h.os, h.tape, h.output, h.size, fun k hk => h.block k hk (by simp)⟩
theorem cat_e (z : ByteArray) : catS [z, ⟨#[]⟩] = z := by
  apply ByteArray.ext
  unfold catS
  simp
theorem sum_e (z : ByteArray) : sumS [z, ⟨#[]⟩] = z.size := by
  show ([z, ⟨#[]⟩].map (·.size)).sum = _
  have : (⟨#[]⟩ : ByteArray).size = 0 := rfl
  simp [this]
theorem long_ok (z : ByteArray) (h : z.size ≤ 960000) : (saveD (newD 2097152) 7 z).2 = 0 ∧ Calm (saveD (newD 2097152) 7 z).1 2097152 (cleanF 7 z) 10 ∧ loadD (saveD (newD 2097152) 7 z).1 = (7, z, 0) := by
  have hn := need_le z
  have h0 : saveC (newD 2097152) 7 z = 0 := saveC_zero (s := newD 2097152) (n := 7) (by decide) rfl (by rw [load_none (s := newD 2097152) rfl rfl]; decide) h (by
    have : freeD (newD 2097152) = 2097152 := by decide
    rw [this]
    omega) (by decide)
  have h1 := save_calm (calm_new 2097152) asc_nil only_nil fls_nil (n := 7) (d := z) (by decide) h0
  exact ⟨h1.1, h1.2, load_clean h1.2.off h1.2.files (by decide) h⟩
theorem long_no (z : ByteArray) (h : 960000 < z.size) : saveD (newD 2097152) 7 z = (newD 2097152, 5) := saveC_long (by decide) rfl (by rw [load_none (s := newD 2097152) rfl rfl]; decide) h
set_option maxHeartbeats 4000000 in
set_option maxRecDepth 100000 in
theorem SnapLong_calls (a : Nat) (ha : a < 4294967296) (w : World) (hT : SumW.Tab w) : Calls Tryz.prog 3 #[.int .u32 (a : Int)] w fun e w' => e = .returned (.bool true) ∧ Below w.heap.size w w' := by
  have HTT := Aside0.mk hT
  have HN := Aside0.mk (new_S w w 2097152 (by decide) (by decide) (Below.refl _ _) (fun _ => False) (fun _ h => h.elim))
  clear hT
  generalize w.heap.size + 1 = g at HN
  obtain ⟨b, hb⟩ : ∃ b, b = w.heap.size := ⟨_, rfl⟩
  have HN2 : Aside0 (Calls Tryz.prog 13 #[.int .i64 2097152] w fun e w' => e = .returned (.pointer (some ⟨g, 0, none⟩)) ∧ RunK w w' g b (newD 2097152) (fun _ => False)) := ⟨by rw [hb]; exact HN.out.mono fun e w' hq => ⟨hq.1, hq.2.1⟩⟩
  clear HN hb
  obtain ⟨q, hq⟩ : ∃ q, q = a % 130000 := ⟨_, rfl⟩
  have hr1 : Int.tmod (a : Int) 130000 = (q : Int) := by rw [Int.tmod_eq_emod_of_nonneg (by omega)]; omega
  have hr2 : (a : Int) % 130000 = (q : Int) := by omega
  have hq1 : q < 130000 := by omega
  have hw1 : IntKind.i64.wrap (q : Int) = (q : Int) := by rw [IntKind.wrap_i64]; omega
  have hw2 : wrap64 (q : Int) = (q : Int) := by unfold wrap64; omega
  clear hq
  go_enter Tryz.func3, Tryz.ntmps3
  go_wp2_with fail
  refine HN2.out.mono ?_
  rintro e w1 ⟨rfl, hr1⟩
  have HR1 := Aside0.mk hr1
  clear hr1 HN2
  by_cases hbig : q ≤ 125000
  · have hng : ¬ ((q : Int) > 125000) := by omega
    have hng2 : ¬ ((q : Int) > 960000) := by omega
    have HZ : Aside0 ((zeroS q).size = q) := ⟨zeroS_size _⟩
    go_wp2_with (first | ((with_reducible refine gate_dst (N := 21) rfl ?_); refine Kd.R_make (Kd.int .u8) (w0 := w) w.heap.size 5 rfl (N := 21) rfl 25 _ _ rfl (q : Int) rfl rfl Tryz.underlying25 (.int .u8 0) 1 infoB rfl (by decide) (by decide) 0 (ok := fun _ => True) (okp := fun _ => True) rfl (fun _ hk => hk) trivial (by omega) (by omega) HR1.out.bel HR1.out.bel.size ?_; intro v5 w5 ho5 hb5 hg5 hnew5; clear hnew5 hb5; have hcv := own_string (P := Tryz.prog) Tryz.underlying25 Tryz.underlying5 Tryz.underlying9 (Kd.own_of_R ho5); have HR5 := Aside0.mk (HR1.out.below (below_grown hg5)); clear hg5; obtain ⟨A5, c5, e5⟩ := Kd.R_slice ho5; rw [List.length_replicate, Int.toNat_natCast] at e5; subst e5; clear ho5; rw [Int.toNat_natCast] at hcv; change (convert 25 9 _).run Tryz.prog w5 = .ok (.string (zeroS q)) w5 at hcv; generalize zeroS q = z at hcv HZ) | fail)
    have HLO := Aside0.mk (long_ok z (by rw [HZ.out]; omega))
    have HSV : Aside0 (Calls Tryz.prog 14 #[.pointer (some ⟨g, 0, none⟩), .int .i64 7, .slice (some ⟨w5.heap.size, 0, none⟩) 2 2] (w5.alloc (.cells #[.string z, .string ⟨#[]⟩] 9)) fun e w' => e = .returned (.int .i64 0) ∧ RunK w w' g b (saveD (newD 2097152) 7 z).1 (fun _ => False)) := ⟨by
      have h2 := Save_calls (HR5.out.below (below_alloc (Below.refl _ _) (.cells #[.string z, .string ⟨#[]⟩] 9))) (by show (0 : Int) < 800000; decide) HTT.out 7 (some ⟨w5.heap.size, 0, none⟩) 2 [z, ⟨#[]⟩] (strC_blk (blk_new w5 _) (by simp)) (by simp) (by simp) (by rw [sum_e, HZ.out]; omega)
      rw [cat_e] at h2
      exact h2.mono fun e w' hq => ⟨by have := hq.1; rw [HLO.out.1] at this; exact this, hq.2.1⟩⟩
    have hzz := str_eq z
    clear hcv
    go_wp2_with fail
    refine HSV.out.mono ?_
    rintro e w6 ⟨rfl, hr6⟩
    have HR6 := Aside0.mk hr6
    clear hr6 HSV
    go_wp2_with fail
    refine (Load_calls HR6.out (HTT.out.below HR6.out.bel HTT.out.lt)).mono ?_
    rintro e w7 ⟨rfl, hb7⟩
    rw [HLO.out.2.2]
    have HB7 := Aside0.mk (below_step HR6.out.bel hb7)
    clear hb7
    go_wp2_with fail
    refine (awake_calls w7 (HTT.out.below HB7.out HTT.out.lt)).mono ?_
    rintro e w8 ⟨rfl, hb8⟩
    have HB8 := Aside0.mk (below_step HB7.out hb8)
    clear hb8
    go_wp2_with fail
    go_ret
    exact ⟨rfl, HB8.out⟩
  · have hg : (q : Int) > 125000 := by omega
    have hnb : ¬ ((q : Int) ≤ 125000) := by omega
    obtain ⟨r, hr⟩ : ∃ r : Int, r = (q : Int) % 2 := ⟨_, rfl⟩
    have ht2 : Int.tmod (q : Int) 2 = r := by rw [Int.tmod_eq_emod_of_nonneg (by omega)]; omega
    have ht3 : (q : Int) % 2 = r := hr.symm
    have hr0 : r = 0 ∨ r = 1 := by omega
    obtain ⟨N, hN⟩ : ∃ N : Nat, (N : Int) = 960000 + r := ⟨(960000 + r).toNat, by omega⟩
    have hwA : IntKind.i64.wrap (960001 + r) = 960001 + r := by rw [IntKind.wrap_i64]; omega
    have hwB : IntKind.i64.wrap (960001 + r - 1) = (N : Int) := by rw [IntKind.wrap_i64]; omega
    by_cases hle : N ≤ 960000
    · have hng2 : ¬ ((N : Int) > 960000) := by omega
      have HRN := Aside0.mk hN
      clear hr hr0 hN
      have HZ : Aside0 ((zeroS N).size = N) := ⟨zeroS_size _⟩
      go_wp2_with (first | ((with_reducible refine gate_dst (N := 21) rfl ?_); refine Kd.R_make (Kd.int .u8) (w0 := w) w.heap.size 5 rfl (N := 21) rfl 25 _ _ rfl (N : Int) rfl rfl Tryz.underlying25 (.int .u8 0) 1 infoB rfl (by decide) (by decide) 0 (ok := fun _ => True) (okp := fun _ => True) rfl (fun _ hk => hk) trivial (by omega) (by omega) HR1.out.bel HR1.out.bel.size ?_; intro v5 w5 ho5 hb5 hg5 hnew5; clear hnew5 hb5; have hcv := own_string (P := Tryz.prog) Tryz.underlying25 Tryz.underlying5 Tryz.underlying9 (Kd.own_of_R ho5); have HR5 := Aside0.mk (HR1.out.below (below_grown hg5)); clear hg5; obtain ⟨A5, c5, e5⟩ := Kd.R_slice ho5; rw [List.length_replicate, Int.toNat_natCast] at e5; subst e5; clear ho5; rw [Int.toNat_natCast] at hcv; change (convert 25 9 _).run Tryz.prog w5 = .ok (.string (zeroS N)) w5 at hcv; generalize zeroS N = z at hcv HZ) | fail)
      have HLO := Aside0.mk (long_ok z (by rw [HZ.out]; omega))
      have HSV : Aside0 (Calls Tryz.prog 14 #[.pointer (some ⟨g, 0, none⟩), .int .i64 7, .slice (some ⟨w5.heap.size, 0, none⟩) 2 2] (w5.alloc (.cells #[.string z, .string ⟨#[]⟩] 9)) fun e w' => e = .returned (.int .i64 0) ∧ RunK w w' g b (saveD (newD 2097152) 7 z).1 (fun _ => False)) := ⟨by
        have h2 := Save_calls (HR5.out.below (below_alloc (Below.refl _ _) (.cells #[.string z, .string ⟨#[]⟩] 9))) (by show (0 : Int) < 800000; decide) HTT.out 7 (some ⟨w5.heap.size, 0, none⟩) 2 [z, ⟨#[]⟩] (strC_blk (blk_new w5 _) (by simp)) (by simp) (by simp) (by rw [sum_e, HZ.out]; omega)
        rw [cat_e] at h2
        exact h2.mono fun e w' hq => ⟨by have := hq.1; rw [HLO.out.1] at this; exact this, hq.2.1⟩⟩
      have hzz := str_eq z
      clear hcv
      go_wp2_with fail
      refine HSV.out.mono ?_
      rintro e w6 ⟨rfl, hr6⟩
      have HR6 := Aside0.mk hr6
      clear hr6 HSV
      go_wp2_with fail
      refine (Load_calls HR6.out (HTT.out.below HR6.out.bel HTT.out.lt)).mono ?_
      rintro e w7 ⟨rfl, hb7⟩
      rw [HLO.out.2.2]
      have HB7 := Aside0.mk (below_step HR6.out.bel hb7)
      clear hb7
      go_wp2_with fail
      refine (awake_calls w7 (HTT.out.below HB7.out HTT.out.lt)).mono ?_
      rintro e w8 ⟨rfl, hb8⟩
      have HB8 := Aside0.mk (below_step HB7.out hb8)
      clear hb8
      go_wp2_with fail
      go_ret
      exact ⟨rfl, HB8.out⟩
    · have hng2 : (N : Int) > 960000 := by omega
      have hlt : N < 970000 := by omega
      have HGT : Aside0 (960000 < N) := ⟨by omega⟩
      clear hr hr0 hN hle
      have HZ : Aside0 ((zeroS N).size = N) := ⟨zeroS_size _⟩
      go_wp2_with (first | ((with_reducible refine gate_dst (N := 21) rfl ?_); refine Kd.R_make (Kd.int .u8) (w0 := w) w.heap.size 5 rfl (N := 21) rfl 25 _ _ rfl (N : Int) rfl rfl Tryz.underlying25 (.int .u8 0) 1 infoB rfl (by decide) (by decide) 0 (ok := fun _ => True) (okp := fun _ => True) rfl (fun _ hk => hk) trivial (by omega) (by omega) HR1.out.bel HR1.out.bel.size ?_; intro v5 w5 ho5 hb5 hg5 hnew5; clear hnew5 hb5; have hcv := own_string (P := Tryz.prog) Tryz.underlying25 Tryz.underlying5 Tryz.underlying9 (Kd.own_of_R ho5); have HR5 := Aside0.mk (HR1.out.below (below_grown hg5)); clear hg5; obtain ⟨A5, c5, e5⟩ := Kd.R_slice ho5; rw [List.length_replicate, Int.toNat_natCast] at e5; subst e5; clear ho5; rw [Int.toNat_natCast] at hcv; change (convert 25 9 _).run Tryz.prog w5 = .ok (.string (zeroS N)) w5 at hcv; generalize zeroS N = z at hcv HZ) | fail)
      have HLO := Aside0.mk (long_no z (by rw [HZ.out]; exact HGT.out))
      have HSV : Aside0 (Calls Tryz.prog 14 #[.pointer (some ⟨g, 0, none⟩), .int .i64 7, .slice (some ⟨w5.heap.size, 0, none⟩) 2 2] (w5.alloc (.cells #[.string z, .string ⟨#[]⟩] 9)) fun e w' => e = .returned (.int .i64 5) ∧ RunK w w' g b (newD 2097152) (fun _ => False)) := ⟨by
        have h2 := Save_calls (HR5.out.below (below_alloc (Below.refl _ _) (.cells #[.string z, .string ⟨#[]⟩] 9))) (by show (0 : Int) < 800000; decide) HTT.out 7 (some ⟨w5.heap.size, 0, none⟩) 2 [z, ⟨#[]⟩] (strC_blk (blk_new w5 _) (by simp)) (by simp) (by simp) (by rw [sum_e, HZ.out]; omega)
        rw [cat_e, HLO.out] at h2
        exact h2.mono fun e w' hq => ⟨hq.1, hq.2.1⟩⟩
      clear hcv
      go_wp2_with fail
      refine HSV.out.mono ?_
      rintro e w6 ⟨rfl, hr6⟩
      have HR6 := Aside0.mk hr6
      clear hr6 HSV
      go_wp2_with fail
      refine (names_S HR6.out none 0 [] (nilC _)).mono ?_
      rintro e w7 ⟨v7, rfl, hr7, hb7⟩
      have hnn : namesD (newD 2097152) [] = [] := rfl
      rw [hnn] at hr7
      obtain ⟨A7, c7, rfl⟩ := Kd.R_slice hr7
      have HB7 := Aside0.mk (below_step HR6.out.bel hb7)
      clear hb7 hr7 hnn
      go_wp2_with fail
      refine (awake_calls w7 (HTT.out.below HB7.out HTT.out.lt)).mono ?_
      rintro e w8 ⟨rfl, hb8⟩
      have HB8 := Aside0.mk (below_step HB7.out hb8)
      clear hb8
      go_wp2_with fail
      go_ret
      exact ⟨rfl, HB8.out⟩
end Go.Proofs.YtcbbdkennmopdaaGreatDoor.PK
