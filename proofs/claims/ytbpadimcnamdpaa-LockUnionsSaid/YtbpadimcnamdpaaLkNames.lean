/- lock: names rise; what wants, united, are. Plain words. -/
import Derived.Test.YtbpadimcnamdpaaLkAwake
import Derived.Test.YtbpadimcnamdpaaPKx4
namespace Go.Proofs.Ytbpadimcnamdpaa.PK
open Go.RowKit Go.Proofs.YtbpadimcnamdpaaW.PrintWords Go.Proofs.YtbpadimcnamdpaaW.PrintLast Go.Proofs.YtbpadimcnamdpaaW.PrintMore
theorem u8_tri (a b : UInt8) (h1 : ¬ a < b) (h2 : ¬ b < a) : a = b := by
  apply UInt8.toNat.inj
  rw [UInt8.lt_iff_toNat_lt] at h1 h2
  omega
theorem bl_tri : ∀ a b : List UInt8, Op.bytesLess a b = false → Op.bytesLess b a = false → a = b
  | [], [], _, _ => rfl
  | [], y :: ys, h, _ => by simp [Op.bytesLess] at h
  | x :: xs, [], _, h => by simp [Op.bytesLess] at h
  | x :: xs, y :: ys, h1, h2 => by
    simp only [Op.bytesLess, Bool.or_eq_false_iff, decide_eq_false_iff_not, Bool.and_eq_false_imp, beq_iff_eq] at h1 h2
    obtain rfl := u8_tri x y h1.1 h2.1
    rw [bl_tri xs ys (h1.2 rfl) (h2.2 rfl)]
theorem bl_trans : ∀ a b c : List UInt8, Op.bytesLess a b = true → Op.bytesLess b c = true → Op.bytesLess a c = true
  | _, _, [], _, h => by simp [Op.bytesLess] at h
  | [], _, z :: zs, _, _ => by simp [Op.bytesLess]
  | x :: xs, [], z :: zs, h, _ => by simp [Op.bytesLess] at h
  | x :: xs, y :: ys, z :: zs, h1, h2 => by
    simp only [Op.bytesLess, Bool.or_eq_true, decide_eq_true_eq, Bool.and_eq_true, beq_iff_eq] at h1 h2 ⊢
    rcases h1 with h1 | ⟨rfl, h1⟩
    · rcases h2 with h2 | ⟨rfl, h2⟩
      · left; rw [UInt8.lt_iff_toNat_lt] at h1 h2 ⊢; omega
      · left; exact h1
    · rcases h2 with h2 | ⟨rfl, h2⟩
      · left; exact h2
      · right; exact ⟨rfl, bl_trans xs ys zs h1 h2⟩
def nl (x y : W) : Bool := Op.bytesLess x.f0.toList y.f0.toList
theorem nl_irrefl (x : W) : nl x x = false := bytesLess_self _
theorem nl_trans {x y z : W} (h : nl x y = true) (k : nl y z = true) : nl x z = true := bl_trans _ _ _ h k
theorem nl_tri {x y : W} (h : nl x y = false) (k : nl y x = false) : x.f0 = y.f0 := by
  have := bl_tri _ _ h k
  rw [ByteArray.toList_eq, ByteArray.toList_eq] at this
  apply ByteArray.ext
  exact Array.toList_inj.1 this
theorem nl_asymm {x y : W} (h : nl x y = true) : nl y x = false := by
  cases hh : nl y x with
  | false => rfl
  | true => exact absurd (nl_trans h hh) (by rw [nl_irrefl]; decide)
theorem nl_congr {x y z : W} (h : x.f0 = y.f0) : nl x z = nl y z ∧ nl z x = nl z y := by unfold nl; rw [h]; exact ⟨rfl, rfl⟩
theorem lt_nl (x y : W) : ltOf cmpW x y = nl x y := by
  unfold ltOf cmpW cmpS nl
  cases h : Op.bytesLess x.f0.toList y.f0.toList with
  | true => rfl
  | false =>
    simp only [Bool.false_eq_true, if_false]
    split <;> rfl
theorem swo : Sort.SWO (ltOf cmpW) := by
  refine ⟨fun x => by rw [lt_nl]; exact nl_irrefl x, fun x y z h k => by rw [lt_nl] at *; exact nl_trans h k, fun x y z h k => ?_⟩
  rw [lt_nl] at *
  cases hh : nl x z with
  | false => rfl
  | true =>
    cases hxy : nl y x with
    | false =>
      have := nl_tri h hxy
      rw [(nl_congr this).1] at hh
      rw [hh] at k; cases k
    | true => exact absurd (nl_trans hxy hh) (by rw [k]; decide)
/-- Sorted: the same wants, none less than an earlier one. -/
theorem sortL_perm (xs : List W) : (sortL xs).Perm xs := by
  have h := (Sort.insertionSort_holds (lt := ltOf cmpW) swo xs.toArray 0 xs.length (Nat.zero_le _) (by simp)).1
  have hs : (Sort.insertionSort (ltOf cmpW) xs.toArray 0 xs.length).size = xs.length := by rw [size_ins]; simp
  have h2 := h.2.2
  unfold sortL
  have e1 : (Sort.insertionSort (ltOf cmpW) xs.toArray 0 xs.length).extract 0 xs.length = Sort.insertionSort (ltOf cmpW) xs.toArray 0 xs.length := by
    apply Array.extract_eq_self_of_le; omega
  have e2 : xs.toArray.extract 0 xs.length = xs.toArray := by
    apply Array.extract_eq_self_of_le; simp
  rw [e1, e2] at h2
  exact h2
theorem sortL_asc (xs : List W) : (sortL xs).Pairwise fun x y => nl y x = false := by
  have h := (Sort.insertionSort_holds (lt := ltOf cmpW) swo xs.toArray 0 xs.length (Nat.zero_le _) (by simp)).2
  have hs : (Sort.insertionSort (ltOf cmpW) xs.toArray 0 xs.length).size = xs.length := by rw [size_ins]; simp
  unfold sortL
  generalize Sort.insertionSort (ltOf cmpW) xs.toArray 0 xs.length = d at h hs
  rw [List.pairwise_iff_getElem]
  intro i j hi hj hij
  rw [Array.length_toList] at hi hj
  have := h i j (Nat.zero_le _) hij (by omega)
  rw [lt_nl, getElem!_pos d j hj, getElem!_pos d i hi] at this
  exact this
/-- What wants, united, are: rising by names, each name once; to be written, where one of them is. -/
structure US (out xs : List W) : Prop where
  asc : out.Pairwise fun x y => nl x y = true
  has : ∀ n, (∃ x ∈ out, x.f0 = n) ↔ ∃ x ∈ xs, x.f0 = n
  wr : ∀ x ∈ out, (x.f1 = true ↔ ∃ y ∈ xs, y.f0 = x.f0 ∧ y.f1 = true)
theorem asc_ext : ∀ o1 o2 : List W, o1.Pairwise (fun x y => nl x y = true) → o2.Pairwise (fun x y => nl x y = true) → (∀ x, x ∈ o1 ↔ x ∈ o2) → o1 = o2
  | [], o2, _, _, h => by
    cases o2 with
    | nil => rfl
    | cons y r => exact absurd ((h y).2 List.mem_cons_self) (by simp)
  | x :: r1, [], _, _, h => absurd ((h x).1 List.mem_cons_self) (by simp)
  | x :: r1, y :: r2, h1, h2, h => by
    rw [List.pairwise_cons] at h1 h2
    have exy : x = y := by
      rcases List.mem_cons.1 ((h x).1 List.mem_cons_self) with e | hx
      · exact e
      · rcases List.mem_cons.1 ((h y).2 List.mem_cons_self) with e | hy
        · exact e.symm
        · exact absurd (nl_trans (h1.1 y hy) (h2.1 x hx)) (by rw [nl_irrefl]; decide)
    subst exy
    rw [asc_ext r1 r2 h1.2 h2.2 (fun z => ⟨fun hz => ?_, fun hz => ?_⟩)]
    · rcases List.mem_cons.1 ((h z).1 (List.mem_cons_of_mem _ hz)) with e | hz2
      · subst e; exact absurd (h1.1 z hz) (by rw [nl_irrefl]; decide)
      · exact hz2
    · rcases List.mem_cons.1 ((h z).2 (List.mem_cons_of_mem _ hz)) with e | hz2
      · subst e; exact absurd (h2.1 z hz) (by rw [nl_irrefl]; decide)
      · exact hz2
theorem US.sub {o1 o2 xs : List W} (h1 : US o1 xs) (h2 : US o2 xs) (x : W) (hx : x ∈ o1) : x ∈ o2 := by
  obtain ⟨y, hy, hn⟩ := (h2.has x.f0).2 ((h1.has x.f0).1 ⟨x, hx, rfl⟩)
  have e1 := h1.wr x hx
  have e2 := h2.wr y hy
  rw [hn] at e2
  have hf : x.f1 = y.f1 := by
    have : x.f1 = true ↔ y.f1 = true := e1.trans e2.symm
    cases hx1 : x.f1 <;> cases hy1 : y.f1 <;> simp_all
  have : x = y := by
    cases x; cases y; simp_all
  rw [this]; exact hy
theorem US.uniq {o1 o2 xs : List W} (h1 : US o1 xs) (h2 : US o2 xs) : o1 = o2 :=
  asc_ext o1 o2 h1.asc h2.asc (fun x => ⟨h1.sub h2 x, h2.sub h1 x⟩)
theorem US.perm {o xs ys : List W} (h : US o xs) (hp : ∀ x, x ∈ xs ↔ x ∈ ys) : US o ys :=
  ⟨h.asc, fun n => (h.has n).trans ⟨fun ⟨x, hx, e⟩ => ⟨x, (hp x).1 hx, e⟩, fun ⟨x, hx, e⟩ => ⟨x, (hp x).2 hx, e⟩⟩,
    fun x hx => (h.wr x hx).trans ⟨fun ⟨y, hy, e⟩ => ⟨y, (hp y).1 hy, e⟩, fun ⟨y, hy, e⟩ => ⟨y, (hp y).2 hy, e⟩⟩⟩
theorem US.nil : US [] [] := ⟨List.Pairwise.nil, fun n => by simp, fun x hx => by simp at hx⟩
/-- One more want whose name there is already: at a place. -/
theorem US.merge {l r xs : List W} {m x : W} (h : US (l ++ m :: r) xs) (hn : m.f0 = x.f0) : US (l ++ ⟨m.f0, m.f1 || x.f1⟩ :: r) (xs ++ [x]) := by
  have hm : ∀ z : W, nl ⟨m.f0, m.f1 || x.f1⟩ z = nl m z ∧ nl z ⟨m.f0, m.f1 || x.f1⟩ = nl z m := fun z => nl_congr rfl
  have ha := h.asc
  rw [List.pairwise_append, List.pairwise_cons] at ha
  refine ⟨?_, fun n => ?_, fun z hz => ?_⟩
  · rw [List.pairwise_append, List.pairwise_cons]
    refine ⟨ha.1, ⟨fun z hz => by rw [(hm z).1]; exact ha.2.1.1 z hz, ha.2.1.2⟩, fun a hla b hb => ?_⟩
    rcases List.mem_cons.1 hb with e | hb
    · rw [e, (hm a).2]; exact ha.2.2 a hla m List.mem_cons_self
    · exact ha.2.2 a hla b (List.mem_cons_of_mem _ hb)
  · constructor
    · rintro ⟨z, hz, e⟩
      have : ∃ z ∈ l ++ m :: r, z.f0 = n := by
        rcases List.mem_append.1 hz with hz | hz
        · exact ⟨z, List.mem_append_left _ hz, e⟩
        · rcases List.mem_cons.1 hz with e2 | hz
          · exact ⟨m, List.mem_append_right _ List.mem_cons_self, by rw [← e, e2]⟩
          · exact ⟨z, List.mem_append_right _ (List.mem_cons_of_mem _ hz), e⟩
      obtain ⟨y, hy, e2⟩ := (h.has n).1 this
      exact ⟨y, List.mem_append_left _ hy, e2⟩
    · rintro ⟨y, hy, e⟩
      have : ∃ z ∈ l ++ m :: r, z.f0 = n := by
        rcases List.mem_append.1 hy with hy | hy
        · exact (h.has n).2 ⟨y, hy, e⟩
        · rw [List.mem_singleton.1 hy] at e
          exact ⟨m, List.mem_append_right _ List.mem_cons_self, by rw [hn, e]⟩
      obtain ⟨z, hz, e2⟩ := this
      rcases List.mem_append.1 hz with hz | hz
      · exact ⟨z, List.mem_append_left _ hz, e2⟩
      · rcases List.mem_cons.1 hz with e3 | hz
        · exact ⟨_, List.mem_append_right _ List.mem_cons_self, by rw [← e2, e3]⟩
        · exact ⟨z, List.mem_append_right _ (List.mem_cons_of_mem _ hz), e2⟩
  · have other : ∀ z ∈ l ++ m :: r, z.f0 ≠ x.f0 → (z.f1 = true ↔ ∃ y ∈ xs ++ [x], y.f0 = z.f0 ∧ y.f1 = true) := fun z hz hne => by
      rw [h.wr z hz]
      constructor
      · rintro ⟨y, hy, e⟩; exact ⟨y, List.mem_append_left _ hy, e⟩
      · rintro ⟨y, hy, e⟩
        rcases List.mem_append.1 hy with hy | hy
        · exact ⟨y, hy, e⟩
        · rw [List.mem_singleton.1 hy] at e; exact absurd e.1.symm hne
    have hne : ∀ z, nl z m = true ∨ nl m z = true → z.f0 ≠ x.f0 := fun z hz e => by
      rw [← hn] at e
      rcases hz with hz | hz
      · rw [(nl_congr e).1, nl_irrefl] at hz; cases hz
      · rw [(nl_congr e).2, nl_irrefl] at hz; cases hz
    rcases List.mem_append.1 hz with hz | hz
    · exact other z (List.mem_append_left _ hz) (hne z (.inl (ha.2.2 z hz m List.mem_cons_self)))
    · rcases List.mem_cons.1 hz with e | hz
      · subst e
        show ((m.f1 || x.f1) = true) ↔ _
        rw [Bool.or_eq_true, h.wr m (List.mem_append_right _ List.mem_cons_self)]
        constructor
        · rintro (⟨y, hy, e⟩ | hx)
          · exact ⟨y, List.mem_append_left _ hy, e⟩
          · exact ⟨x, List.mem_append_right _ (List.mem_singleton.2 rfl), hn.symm, hx⟩
        · rintro ⟨y, hy, e⟩
          rcases List.mem_append.1 hy with hy | hy
          · exact .inl ⟨y, hy, e⟩
          · rw [List.mem_singleton.1 hy] at e; exact .inr e.2
      · exact other z (List.mem_append_right _ (List.mem_cons_of_mem _ hz)) (hne z (.inr (ha.2.1.1 z hz)))
/-- One more want, whose name there is not: between the lesser ones and the greater ones. -/
theorem US.insert {l r xs : List W} {x : W} (h : US (l ++ r) xs) (hl : ∀ z ∈ l, nl z x = true) (hr : ∀ z ∈ r, nl x z = true) : US (l ++ x :: r) (xs ++ [x]) := by
  have ha := h.asc
  rw [List.pairwise_append] at ha
  have hne : ∀ z ∈ l ++ r, z.f0 ≠ x.f0 := fun z hz e => by
    rcases List.mem_append.1 hz with hz | hz
    · have := hl z hz; rw [(nl_congr e).1, nl_irrefl] at this; cases this
    · have := hr z hz; rw [(nl_congr e).2, nl_irrefl] at this; cases this
  have hmem : ∀ z, z ∈ l ++ x :: r ↔ z = x ∨ z ∈ l ++ r := fun z => by
    simp only [List.mem_append, List.mem_cons]
    constructor
    · rintro (h | h | h)
      · exact .inr (.inl h)
      · exact .inl h
      · exact .inr (.inr h)
    · rintro (h | h | h)
      · exact .inr (.inl h)
      · exact .inl h
      · exact .inr (.inr h)
  refine ⟨?_, fun n => ?_, fun z hz => ?_⟩
  · rw [List.pairwise_append, List.pairwise_cons]
    refine ⟨ha.1, ⟨hr, ha.2.1⟩, fun a hla b hb => ?_⟩
    rcases List.mem_cons.1 hb with e | hb
    · rw [e]; exact hl a hla
    · exact ha.2.2 a hla b hb
  · constructor
    · rintro ⟨z, hz, e⟩
      rcases (hmem z).1 hz with rfl | hz
      · exact ⟨z, List.mem_append_right _ (List.mem_singleton.2 rfl), e⟩
      · obtain ⟨y, hy, e2⟩ := (h.has n).1 ⟨z, hz, e⟩
        exact ⟨y, List.mem_append_left _ hy, e2⟩
    · rintro ⟨y, hy, e⟩
      rcases List.mem_append.1 hy with hy | hy
      · obtain ⟨z, hz, e2⟩ := (h.has n).2 ⟨y, hy, e⟩
        exact ⟨z, (hmem z).2 (.inr hz), e2⟩
      · rw [List.mem_singleton.1 hy] at e
        exact ⟨x, (hmem x).2 (.inl rfl), e⟩
  · rcases (hmem z).1 hz with rfl | hz
    · constructor
      · intro hx; exact ⟨z, List.mem_append_right _ (List.mem_singleton.2 rfl), rfl, hx⟩
      · rintro ⟨y, hy, e⟩
        rcases List.mem_append.1 hy with hy | hy
        · obtain ⟨q, hq, e2⟩ := (h.has z.f0).2 ⟨y, hy, e.1⟩
          exact absurd e2 (hne q hq)
        · rw [List.mem_singleton.1 hy] at e; exact e.2
    · rw [h.wr z hz]
      constructor
      · rintro ⟨y, hy, e⟩; exact ⟨y, List.mem_append_left _ hy, e⟩
      · rintro ⟨y, hy, e⟩
        rcases List.mem_append.1 hy with hy | hy
        · exact ⟨y, hy, e⟩
        · rw [List.mem_singleton.1 hy] at e; exact absurd e.1.symm (hne z hz)
theorem concat_of (l : List W) (h : 0 < l.length) : ∃ r m, l = r ++ [m] := by
  rcases List.eq_nil_or_concat l with e | ⟨r, m, e⟩
  · rw [e] at h; simp at h
  · exact ⟨r, m, by rw [e, List.concat_eq_append]⟩
theorem rd31_last (r : List W) (m : W) : rd_T31 (r ++ [m]) (((r ++ [m]).length - 1 : Nat) : Int) = m := by
  rw [rd31_at _ _ (by simp)]
  simp
theorem uni_go : ∀ (rest pre out : List W), US out pre → (pre ++ rest).Pairwise (fun x y => nl y x = false) → US (rest.foldl uniStep out) (pre ++ rest)
  | [], pre, out, h, _ => by simpa using h
  | x :: rest, pre, out, h, hp => by
    have hstep : US (uniStep out x) (pre ++ [x]) := by
      unfold uniStep
      have hle : ∀ z ∈ out, nl x z = false := fun z hz => by
        obtain ⟨y, hy, e⟩ := (h.has z.f0).1 ⟨z, hz, rfl⟩
        rw [List.pairwise_append] at hp
        have := hp.2.2 y hy x List.mem_cons_self
        rw [(nl_congr e).2] at this
        exact this
      split
      · rename_i hc
        obtain ⟨r, m, rfl⟩ := concat_of out hc.1
        rw [rd31_last] at hc ⊢
        have e : m.f0 = x.f0 := by
          have := hc.2
          rw [ByteArray.toList_eq, ByteArray.toList_eq] at this
          exact ByteArray.ext (Array.toList_inj.1 this)
        have hs : (r ++ [m]).set ((r ++ [m]).length - 1) ⟨m.f0, m.f1 || x.f1⟩ = r ++ [⟨m.f0, m.f1 || x.f1⟩] := by simp
        rw [hs]
        exact US.merge (r := []) h e
      · rename_i hc
        have hl : ∀ z ∈ out, nl z x = true := fun z hz => by
          cases hzx : nl z x with
          | true => rfl
          | false =>
            exfalso
            have e := nl_tri hzx (hle z hz)
            have h0 : 0 < out.length := List.length_pos_of_mem hz
            obtain ⟨r, m, rfl⟩ := concat_of out h0
            rw [rd31_last] at hc
            rcases List.mem_append.1 hz with hz | hz
            · have ha := h.asc
              rw [List.pairwise_append] at ha
              have h1 := ha.2.2 z hz m (List.mem_singleton.2 rfl)
              rw [(nl_congr e).1] at h1
              have h2 := hle m (List.mem_append_right _ (List.mem_singleton.2 rfl))
              rw [h1] at h2; cases h2
            · rw [List.mem_singleton.1 hz] at e
              exact hc ⟨h0, by rw [e]⟩
        have := US.insert (l := out) (r := []) (xs := pre) (x := x) (by simpa using h) hl (fun z hz => by simp at hz)
        exact this
    rw [List.foldl_cons]
    have := uni_go rest (pre ++ [x]) (uniStep out x) hstep (by simpa using hp)
    simpa using this
theorem uni_US (xs : List W) : US (uniL (sortL xs)) xs := by
  have h := uni_go (sortL xs) [] [] US.nil (by simpa using sortL_asc xs)
  rw [List.nil_append] at h
  exact h.perm (fun x => (sortL_perm xs).mem_iff)
theorem w64n (n : Nat) (h : n < 9223372036854775808) : wrap64 (n : Int) = (n : Int) := by unfold wrap64; omega
theorem w64i (n : Int) (h0 : -9223372036854775808 ≤ n) (h : n < 9223372036854775808) : wrap64 n = n := by unfold wrap64; omega
theorem ev_step {α : Type} {g h : Nat → Option α} {r : α} (hg : ∀ k, g (k + 1) = h k) (hh : Ev h r) : Ev g r := by
  obtain ⟨K, hK⟩ := hh
  exact ⟨K + 1, fun k hk => by obtain ⟨m, rfl⟩ : ∃ m, k = m + 1 := ⟨k - 1, by omega⟩; rw [hg]; exact hK m (by omega)⟩
/-- The elements behind a place move up by one. -/
theorem ins_l2 (l acc : List W) (i : Nat) (hi : i < l.length) (hl : l.length ≤ 1000) (j : Nat) (hj : j ≤ acc.length) (ha : acc.length ≤ 1000) (r : List W) (hr : Ev (fun k => affluxlaw22_union.l0 k l (acc.take j ++ l[i] :: acc.drop j) ((i + 1 : Nat) : Int)) r) :
    ∀ (n p : Nat) (z : W), p = j + n → p ≤ acc.length → Ev (fun k => affluxlaw22_union.l2 k l (acc.take p ++ z :: acc.drop p) (i : Int) (j : Int) (p : Int)) r := by
  intro n
  induction n with
  | zero =>
    intro p z hp hpl
    obtain rfl : p = j := by omega
    refine ev_step (fun k => ?_) hr
    have hlen : (acc.take p ++ z :: acc.drop p).length = acc.length + 1 := by simp; omega
    simp only [affluxlaw22_union.l2]
    rw [if_neg (by omega), if_pos (by omega), if_pos (by omega), if_pos (by omega), if_pos (by omega), rd31_at l i hi, w64i _ (by omega) (by omega), Int.toNat_natCast]
    have hs : (acc.take p ++ z :: acc.drop p).set p (⟨l[i].f0, l[i].f1⟩ : W) = acc.take p ++ l[i] :: acc.drop p := by
      rw [List.set_append_right _ _ (by rw [List.length_take]; omega)]
      simp [List.length_take, Nat.min_eq_left hpl]
    rw [hs]
    rfl
  | succ n ih =>
    intro p z hp hpl
    refine ev_step (h := fun k => affluxlaw22_union.l2 k l (acc.take (p - 1) ++ acc[p - 1] :: acc.drop (p - 1)) (i : Int) (j : Int) ((p - 1 : Nat) : Int)) (fun k => ?_) (ih (p - 1) acc[p - 1] (by omega) (by omega))
    have hlen : (acc.take p ++ z :: acc.drop p).length = acc.length + 1 := by simp; omega
    have hp1 : (p : Int) - 1 = ((p - 1 : Nat) : Int) := by omega
    simp only [affluxlaw22_union.l2]
    rw [if_pos (by omega), hp1, w64n _ (by omega), if_pos (by omega), if_pos (by omega), if_pos (by omega), if_pos (by omega), Int.toNat_natCast]
    have hrd : rd_T31 (acc.take p ++ z :: acc.drop p) ((p - 1 : Nat) : Int) = acc[p - 1] := by
      rw [rd31_at _ _ (by omega), List.getElem_append_left (by rw [List.length_take]; omega), List.getElem_take]
    rw [hrd]
    have hs : (acc.take p ++ z :: acc.drop p).set p (⟨acc[p - 1].f0, acc[p - 1].f1⟩ : W) = acc.take (p - 1) ++ acc[p - 1] :: acc.drop (p - 1) := by
      rw [List.set_append_right _ _ (by rw [List.length_take]; omega)]
      have e1 : acc.take p = acc.take (p - 1) ++ [acc[p - 1]] := by
        conv => lhs; rw [show p = (p - 1) + 1 by omega]
        rw [List.take_succ_eq_append_getElem (by omega)]
      have e2 : acc.drop (p - 1) = acc[p - 1] :: acc.drop p := by
        rw [List.drop_eq_getElem_cons (by omega), show p - 1 + 1 = p by omega]
      rw [e1, e2]
      have e3 : p - (acc.take (p - 1) ++ [acc[p - 1]]).length = 0 := by simp; omega
      rw [e3, List.set_cons_zero, List.append_assoc]
      rfl
    rw [hs]
theorem toList_inj {a b : ByteArray} (h : a.toList = b.toList) : a = b := by
  rw [ByteArray.toList_eq, ByteArray.toList_eq] at h
  exact ByteArray.ext (Array.toList_inj.1 h)
/-- From a place on at which all ahead are less. -/
theorem uni_l1 (l : List W) (hl : l.length ≤ 1000) (i : Nat) (hi : i < l.length) (acc : List W) (hU : US acc (l.take i)) (ha : acc.length ≤ i)
    (ih : ∀ acc', US acc' (l.take (i + 1)) → acc'.length ≤ i + 1 → ∃ r, US r l ∧ r.length ≤ l.length ∧ Ev (fun k => affluxlaw22_union.l0 k l acc' ((i + 1 : Nat) : Int)) r) :
    ∀ (n j : Nat), j + n = acc.length → (∀ z ∈ acc.take j, nl z l[i] = true) → ∃ r, US r l ∧ r.length ≤ l.length ∧ Ev (fun k => affluxlaw22_union.l1 k l acc (i : Int) (j : Int)) r := by
  have htk : l.take (i + 1) = l.take i ++ [l[i]] := List.take_succ_eq_append_getElem hi
  -- a new name goes in at place j
  have hins : ∀ j, j ≤ acc.length → (∀ z ∈ acc.take j, nl z l[i] = true) → (∀ z ∈ acc.drop j, nl l[i] z = true) → ∃ r, US r l ∧ r.length ≤ l.length ∧ Ev (fun k => affluxlaw22_union.j3 k l acc (i : Int) (j : Int) false) r := fun j hj h1 h2 => by
    have hU2 : US (acc.take j ++ l[i] :: acc.drop j) (l.take (i + 1)) := by
      rw [htk]
      exact US.insert (by rw [List.take_append_drop]; exact hU) h1 h2
    obtain ⟨r, hr, hrl, hev⟩ := ih _ hU2 (by simp; omega)
    refine ⟨r, hr, hrl, ?_⟩
    have h3 := ins_l2 l acc i hi hl j hj (by omega) r hev (acc.length - j) acc.length (⟨(⟨#[]⟩ : ByteArray), false⟩ : W) (by omega) (Nat.le_refl _)
    rw [List.take_length, List.drop_length] at h3
    refine ev_step (fun k => ?_) h3
    simp only [affluxlaw22_union.j3, Bool.false_eq_true, if_false]
    rw [if_pos (by omega), Option.bind_some]
    have : wrap64 (((acc ++ [(⟨(⟨#[]⟩ : ByteArray), false⟩ : W)]).length : Int) - 1) = (acc.length : Int) := by
      rw [List.length_append, List.length_singleton, w64i _ (by omega) (by omega)]; omega
    rw [this]
  intro n
  induction n with
  | zero =>
    intro j hj h1
    obtain ⟨r, hr, hrl, hev⟩ := hins j (by omega) h1 (fun z hz => by rw [List.drop_eq_nil_of_le (by omega)] at hz; simp at hz)
    refine ⟨r, hr, hrl, ev_step (h := fun k => affluxlaw22_union.j2 k l acc (i : Int) (j : Int)) (fun k => ?_) (ev_step (fun k => ?_) hev)⟩
    · simp only [affluxlaw22_union.l1]
      rw [if_neg (by omega)]
    · simp only [affluxlaw22_union.j2]
      rw [if_neg (by omega)]
  | succ n ihn =>
    intro j hj h1
    have hjl : j < acc.length := by omega
    have htj : acc.take (j + 1) = acc.take j ++ [acc[j]] := List.take_succ_eq_append_getElem hjl
    have hdj : acc.drop j = acc[j] :: acc.drop (j + 1) := List.drop_eq_getElem_cons hjl
    have hacc : acc = acc.take j ++ acc[j] :: acc.drop (j + 1) := by
      conv => lhs; rw [← List.take_append_drop j acc, hdj]
    cases hlt : nl acc[j] l[i] with
    | true =>
      obtain ⟨r, hr, hrl, hev⟩ := ihn (j + 1) (by omega) (fun z hz => by
        rw [htj] at hz
        rcases List.mem_append.1 hz with hz | hz
        · exact h1 z hz
        · rw [List.mem_singleton.1 hz]; exact hlt)
      refine ⟨r, hr, hrl, ev_step (fun k => ?_) hev⟩
      simp only [affluxlaw22_union.l1]
      rw [if_pos (by omega), if_pos (by omega), if_pos (by omega), if_pos (by omega), rd31_at acc j hjl, rd31_at l i hi, if_pos (show Op.bytesLess acc[j].f0.toList l[i].f0.toList = true from hlt), w64i _ (by omega) (by omega)]
      rfl
    | false =>
      by_cases he : acc[j].f0.toList = l[i].f0.toList
      · have hn := toList_inj he
        have hU2 : US (acc.take j ++ ⟨acc[j].f0, acc[j].f1 || l[i].f1⟩ :: acc.drop (j + 1)) (l.take (i + 1)) := by
          rw [htk]
          exact US.merge (by rw [← hacc]; exact hU) hn
        have hset : acc.set j ⟨acc[j].f0, acc[j].f1 || l[i].f1⟩ = acc.take j ++ ⟨acc[j].f0, acc[j].f1 || l[i].f1⟩ :: acc.drop (j + 1) := by
          rw [List.set_eq_take_append_cons_drop, if_pos hjl]
        rw [← hset] at hU2
        obtain ⟨r, hr, hrl, hev⟩ := ih _ hU2 (by rw [List.length_set]; omega)
        refine ⟨r, hr, hrl, ev_step (h := fun k => affluxlaw22_union.j2 k l acc (i : Int) (j : Int)) (fun k => ?_) (ev_step (h := fun k => affluxlaw22_union.j3 k l acc (i : Int) (j : Int) true) (fun k => ?_) (ev_step (fun k => ?_) hev))⟩
        · simp only [affluxlaw22_union.l1]
          rw [if_pos (by omega), if_pos (by omega), if_pos (by omega), if_pos (by omega), rd31_at acc j hjl, rd31_at l i hi, if_neg (by show ¬ nl acc[j] l[i] = true; rw [hlt]; decide)]
        · simp only [affluxlaw22_union.j2]
          rw [if_pos (by omega), if_pos (by omega), if_pos (by omega), if_pos (by omega), rd31_at acc j hjl, rd31_at l i hi, beq_iff_eq.2 he]
        · simp only [affluxlaw22_union.j3]
          rw [if_pos trivial, if_pos (by omega), if_pos (by omega), rd31_at acc j hjl, Int.toNat_natCast, w64i _ (by omega) (by omega)]
          cases hf : acc[j].f1 with
          | true =>
            rw [if_pos rfl]
            rfl
          | false =>
            rw [if_neg (by decide), if_pos (by omega), if_pos (by omega), rd31_at l i hi]
            rfl
      · have hgt : nl l[i] acc[j] = true := by
          cases hh : nl l[i] acc[j] with
          | true => rfl
          | false => exact absurd (by rw [nl_tri hlt hh]) he
        obtain ⟨r, hr, hrl, hev⟩ := hins j (by omega) h1 (fun z hz => by
          rw [hdj] at hz
          rcases List.mem_cons.1 hz with e | hz
          · rw [e]; exact hgt
          · have h2 := hU.asc
            rw [hacc, List.pairwise_append, List.pairwise_cons] at h2
            exact nl_trans hgt (h2.2.1.1 z hz))
        refine ⟨r, hr, hrl, ev_step (h := fun k => affluxlaw22_union.j2 k l acc (i : Int) (j : Int)) (fun k => ?_) (ev_step (fun k => ?_) hev)⟩
        · simp only [affluxlaw22_union.l1]
          rw [if_pos (by omega), if_pos (by omega), if_pos (by omega), if_pos (by omega), rd31_at acc j hjl, rd31_at l i hi, if_neg (by show ¬ nl acc[j] l[i] = true; rw [hlt]; decide)]
        · simp only [affluxlaw22_union.j2]
          rw [if_pos (by omega), if_pos (by omega), if_pos (by omega), if_pos (by omega), rd31_at acc j hjl, rd31_at l i hi, beq_eq_false_iff_ne.2 he]
theorem union_go (l : List W) (hl : l.length ≤ 1000) : ∀ (n i : Nat) (acc : List W), i + n = l.length → US acc (l.take i) → acc.length ≤ i → ∃ r, US r l ∧ r.length ≤ l.length ∧ Ev (fun k => affluxlaw22_union.l0 k l acc (i : Int)) r := by
  intro n
  induction n with
  | zero =>
    intro i acc hi hU ha
    rw [List.take_of_length_le (by omega)] at hU
    refine ⟨acc, hU, by omega, ⟨1, fun k hk => ?_⟩⟩
    obtain ⟨m, rfl⟩ : ∃ m, k = m + 1 := ⟨k - 1, by omega⟩
    simp only [affluxlaw22_union.l0]
    rw [if_neg (by omega)]
  | succ n ih =>
    intro i acc hi hU ha
    obtain ⟨r, hr, hrl, hev⟩ := uni_l1 l hl i (by omega) acc hU ha (fun acc' h1 h2 => ih (i + 1) acc' (by omega) h1 h2) acc.length 0 (by omega) (fun z hz => by simp at hz)
    refine ⟨r, hr, hrl, ev_step (fun k => ?_) hev⟩
    simp only [affluxlaw22_union.l0]
    rw [if_pos (by omega)]
    rfl
/-- The law's own union comes to the same. -/
theorem union_at (l : List W) (hl : l.length ≤ 1000) : Ev (fun k => affluxlaw22_union.f k l) (uniL (sortL l)) := by
  obtain ⟨r, hr, hrl, hev⟩ := union_go l hl l.length 0 [] (by omega) (by simpa using US.nil) (Nat.zero_le _)
  rw [← hr.uniq (uni_US l)]
  exact hev
end Go.Proofs.Ytbpadimcnamdpaa.PK
