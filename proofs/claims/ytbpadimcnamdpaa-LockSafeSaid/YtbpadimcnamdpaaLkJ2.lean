/- Texts of this claim, joined: LkSafeP, LkSafe. -/
import Derived.Test.YtbpadimcnamdpaaLkJ1
import Derived.Deep.MidRow
/- lock: what LockSafe asks for, in plain Lean. -/
namespace Go.Proofs.Ytbpadimcnamdpaa.PK
open Go.RowKit Go.Proofs.YtbpadimcnamdpaaW.PrintWords Go.Proofs.YtbpadimcnamdpaaW.PrintLast Go.Proofs.YtbpadimcnamdpaaW.PrintMore
theorem clash1_symm (x y : W) : clash1 x y = clash1 y x := by
  unfold clash1
  rw [Bool.or_comm x.f1]
  by_cases h : x.f0.toList = y.f0.toList
  · rw [h]
  · rw [decide_eq_false h, decide_eq_false (fun e => h e.symm)]
theorem clash1_nl {x y : W} (h : nl x y = true) : clash1 x y = false := by
  have hne : ¬ x.f0.toList = y.f0.toList := fun e => by
    unfold nl at h
    rw [e, bytesLess_self] at h
    cases h
  unfold clash1
  rw [decide_eq_false hne]
  rfl
theorem anyClash_symm (a b : List W) : anyClash a b = anyClash b a := by
  have h : ∀ a b : List W, anyClash a b = true → anyClash b a = true := fun a b h => by
    unfold anyClash at h ⊢
    rw [List.any_eq_true] at h ⊢
    obtain ⟨x, hx, h2⟩ := h
    rw [List.any_eq_true] at h2
    obtain ⟨y, hy, h3⟩ := h2
    exact ⟨y, hy, List.any_eq_true.2 ⟨x, hx, by rw [clash1_symm]; exact h3⟩⟩
  cases h1 : anyClash a b with
  | true => rw [h a b h1]
  | false =>
    cases h2 : anyClash b a with
    | true => rw [h b a h2] at h1; cases h1
    | false => rfl
theorem anyClash_cons (x : W) (xs b : List W) : anyClash (x :: xs) b = (b.any (fun y => clash1 x y) || anyClash xs b) := rfl
theorem any_none {x : W} {b : List W} (h : ∀ y ∈ b, nl x y = true) : (b.any fun y => clash1 x y) = false := by
  rw [List.any_eq_false]
  intro y hy
  rw [clash1_nl (h y hy)]
  decide
theorem anyClash_nil2 (a : List W) : anyClash a [] = false := by
  unfold anyClash
  rw [List.any_eq_false]
  intro x _
  simp
/-- On lists that rise by names the lock's clash is any two's clash. -/
theorem clashL_any : ∀ (n : Nat) (a b : List W), a.length + b.length ≤ n → a.Pairwise (fun x y => nl x y = true) → b.Pairwise (fun x y => nl x y = true) → clashL a b = anyClash a b := by
  intro n
  induction n with
  | zero =>
    intro a b h _ _
    have ha : a = [] := List.length_eq_zero_iff.1 (by omega)
    subst ha
    rw [clashL_nil]
    rfl
  | succ n ih =>
    intro a b h ha hb
    cases a with
    | nil => rw [clashL_nil]; rfl
    | cons x xs =>
      cases b with
      | nil => rw [clashL_nil2, anyClash_nil2]
      | cons y ys =>
        rw [List.pairwise_cons] at ha
        have hb' := List.pairwise_cons.1 hb
        simp only [List.length_cons] at h
        rw [clashL_cons]
        cases hxy : nl x y with
        | true =>
          have hc : cmpS x.f0 y.f0 = -1 := by unfold cmpS; unfold nl at hxy; rw [if_pos hxy]
          rw [if_pos hc, ih xs (y :: ys) (by simp only [List.length_cons]; omega) ha.2 hb, anyClash_cons, any_none (x := x), Bool.false_or]
          intro z hz
          rcases List.mem_cons.1 hz with e | hz
          · rw [e]; exact hxy
          · exact nl_trans hxy (hb'.1 z hz)
        | false =>
          have hn1 : ¬ cmpS x.f0 y.f0 = -1 := by unfold cmpS; unfold nl at hxy; rw [if_neg (by rw [hxy]; decide)]; split <;> decide
          rw [if_neg hn1]
          cases hyx : nl y x with
          | true =>
            have hc : cmpS x.f0 y.f0 = 1 := by unfold cmpS; unfold nl at hxy hyx; rw [if_neg (by rw [hxy]; decide), if_neg (fun e => by rw [e, bytesLess_self] at hyx; cases hyx)]
            have h3 : ((x :: xs).any fun z => clash1 y z) = false := any_none (fun z hz => by
              rcases List.mem_cons.1 hz with e | hz
              · rw [e]; exact hyx
              · exact nl_trans hyx (ha.1 z hz))
            have h4 : anyClash (y :: ys) (x :: xs) = anyClash ys (x :: xs) := by rw [anyClash_cons, h3, Bool.false_or]
            rw [if_pos hc, ih (x :: xs) ys (by simp only [List.length_cons]; omega) (List.pairwise_cons.2 ha) hb'.2, anyClash_symm (x :: xs) ys, ← h4, anyClash_symm]
          | false =>
            have hc : ¬ cmpS x.f0 y.f0 = 1 := by have he := nl_tri hxy hyx; unfold cmpS; unfold nl at hxy; rw [if_neg (by rw [hxy]; decide), if_pos (by rw [he])]; decide
            have he : x.f0 = y.f0 := nl_tri hxy hyx
            rw [if_neg hc, ih xs ys (by omega) ha.2 hb'.2]
            have h1 : (ys.any fun z => clash1 x z) = false := any_none (fun z hz => by rw [(nl_congr he).1]; exact hb'.1 z hz)
            have h3 : (xs.any fun z => clash1 y z) = false := any_none (fun z hz => by rw [← (nl_congr he).1]; exact ha.1 z hz)
            have h2 : anyClash xs (y :: ys) = anyClash xs ys := by
              rw [anyClash_symm xs (y :: ys), anyClash_cons, h3, Bool.false_or, anyClash_symm]
            rw [anyClash_cons, List.any_cons, h1, h2, Bool.or_false]
            cases clash1 x y <;> simp
/-- What holds of the asks at all times. -/
structure Good (l : List Ask) : Prop where
  ids : (l.map (·.f1)).Nodup
  asc : ∀ x ∈ l, x.f0.f0.Pairwise (fun x y => nl x y = true)
  len : ∀ x ∈ l, x.f0.f0.length ≤ 10
  apart : l.Pairwise (fun x y => x.f2 = true → y.f2 = true → anyClash x.f0.f0 y.f0.f0 = false)
theorem Good.nil : Good [] := ⟨List.nodup_nil, fun _ h => by simp at h, fun _ h => by simp at h, List.Pairwise.nil⟩
theorem Good.sub {l l' : List Ask} (h : Good l) (hs : l'.Sublist l) : Good l' :=
  ⟨h.ids.sublist (hs.map _), fun x hx => h.asc x (hs.subset hx), fun x hx => h.len x (hs.subset hx), h.apart.sublist hs⟩
theorem findI_not {l : List Ask} {id : Int} (h : findI l id < 0) : ∀ x ∈ l, x.f1 ≠ id := by
  intro x hx e
  unfold findI at h
  cases hf : l.findIdx? (fun x => x.f1 == id) with
  | none =>
    rw [List.findIdx?_eq_none_iff] at hf
    have := hf x hx
    rw [e] at this
    simp at this
  | some i =>
    rw [hf] at h
    simp at h
    omega
theorem Good.ask {l : List Ask} (h : Good l) (id : Int) (ws : List W) (hw : ws.length ≤ 10) : Good (askL l id ws) := by
  unfold askL
  by_cases hc : askCode l id = 0
  · rw [if_pos hc]
    have hf : findI l id < 0 := by
      unfold askCode at hc
      by_cases h0 : id < 0
      · rw [if_pos h0] at hc; cases hc
      · rw [if_neg h0] at hc
        by_cases h1 : 0 ≤ findI l id
        · rw [if_pos h1] at hc; cases hc
        · omega
    have hn := findI_not hf
    refine ⟨?_, fun x hx => ?_, fun x hx => ?_, ?_⟩
    · rw [List.map_append, List.nodup_append]
      refine ⟨h.ids, by simp, fun a ha b hb => ?_⟩
      rw [List.map_singleton, List.mem_singleton] at hb
      obtain ⟨x, hx, rfl⟩ := List.mem_map.1 ha
      rw [hb]
      exact hn x hx
    · rcases List.mem_append.1 hx with h1 | h1
      · exact h.asc x h1
      · rw [List.mem_singleton.1 h1]; exact (uni_US ws).asc
    · rcases List.mem_append.1 hx with h1 | h1
      · exact h.len x h1
      · rw [List.mem_singleton.1 h1]
        have := uni_len ws (by omega)
        show (uniL (sortL ws)).length ≤ 10
        omega
    · rw [List.pairwise_append]
      refine ⟨h.apart, List.pairwise_singleton _ _, fun a _ b hb _ h2 => ?_⟩
      rw [List.mem_singleton.1 hb] at h2
      cases h2
  · rw [if_neg hc]
    exact h
theorem Good.free : ∀ (ids : List Int) {l : List Ask}, Good l → Good (freeL l ids).2 ∧ (freeL l ids).2.Sublist l
  | [], l, h => ⟨h, List.Sublist.refl _⟩
  | id :: r, l, h => by
    unfold freeL
    by_cases hf : findI l id < 0
    · rw [if_pos hf]
      exact ⟨h, List.Sublist.refl _⟩
    · rw [if_neg hf]
      have hs := List.eraseIdx_sublist l (findI l id).toNat
      have := Good.free r (h.sub hs)
      exact ⟨this.1, this.2.trans hs⟩
theorem ready_block {l : List Ask} {i : Nat} (hr : readyT l i = true) (hi : i < l.length) (k : Nat) (hk : k < l.length) (hne : k ≠ i) (hh : l[k].f2 = true) (h : Good l) : anyClash l[i].f0.f0 l[k].f0.f0 = false := by
  unfold readyT at hr
  rw [Bool.and_eq_true, List.all_eq_true] at hr
  have h1 := hr.1 k (List.mem_range.2 hk)
  unfold blocks at h1
  rw [rd61_at l i hi, rd61_at l k hk, hh, decide_eq_true hne, clashL_any _ _ _ (Nat.le_refl _) (h.asc _ (List.getElem_mem hi)) (h.asc _ (List.getElem_mem hk))] at h1
  simpa using h1
theorem Good.hold {l : List Ask} (h : Good l) {i : Nat} (hi : i < l.length) (hr : readyT l i = true) : Good (hold l i) := by
  unfold PK.hold
  rw [rd61_at l i hi]
  have hmem : ∀ x ∈ l.set i ⟨l[i].f0, l[i].f1, true⟩, ∃ y ∈ l, y.f0 = x.f0 := fun x hx => by
    rcases List.mem_or_eq_of_mem_set hx with h1 | h1
    · exact ⟨x, h1, rfl⟩
    · exact ⟨l[i], List.getElem_mem hi, by rw [h1]⟩
  refine ⟨?_, fun x hx => ?_, fun x hx => ?_, ?_⟩
  · have e : (l.set i ⟨l[i].f0, l[i].f1, true⟩).map (·.f1) = l.map (·.f1) := by
      rw [List.map_set]
      apply List.ext_getElem
      · simp
      · intro j h1 h2
        rw [List.getElem_set]
        split
        · next e => subst e; simp
        · rfl
    rw [e]
    exact h.ids
  · obtain ⟨y, hy, e⟩ := hmem x hx
    rw [← e]; exact h.asc y hy
  · obtain ⟨y, hy, e⟩ := hmem x hx
    rw [← e]; exact h.len y hy
  · rw [List.pairwise_iff_getElem]
    intro a b ha hb hab
    have hap := List.pairwise_iff_getElem.1 h.apart
    rw [List.length_set] at ha hb
    rw [List.getElem_set, List.getElem_set]
    by_cases hia : i = a
    · subst hia
      rw [if_pos rfl, if_neg (by omega)]
      intro _ h2
      exact ready_block hr hi b hb (by omega) h2 h
    · rw [if_neg hia]
      by_cases hib : i = b
      · subst hib
        rw [if_pos rfl]
        intro h1 _
        rw [anyClash_symm]
        exact ready_block hr hi a ha (by omega) h1 h
      · rw [if_neg hib]
        exact hap a b ha hb hab
theorem Good.grant : ∀ (ids : List Int) {l : List Ask}, Good l → Good (grantL l ids).2 ∧ (grantL l ids).2.length = l.length
  | [], l, h => ⟨h, rfl⟩
  | id :: r, l, h => by
    unfold grantL
    by_cases h1 : findI l id < 0 ∨ heldAt l (findI l id) = true
    · rw [if_pos h1]; exact ⟨h, rfl⟩
    · rw [if_neg h1]
      cases hr : readyT l (findI l id).toNat with
      | false => rw [if_pos rfl]; exact ⟨h, rfl⟩
      | true =>
        rw [if_neg (by decide)]
        have hlt : (findI l id).toNat < l.length := by
          rcases findI_lt l id with h2 | ⟨i, h2, h3⟩
          · exact absurd (.inl h2) h1
          · rw [h2, Int.toNat_natCast]; exact h3
        have := Good.grant r (h.hold hlt hr)
        exact ⟨this.1, this.2.trans (hold_length _ _)⟩
theorem Good.step {l : List Ask} (h : Good l) (a : Act_) (hw : a.f3.length ≤ 10) : Good (stepL l a) ∧ (stepL l a).length ≤ l.length + 1 := by
  unfold stepL
  by_cases h0 : a.f0 = 0
  · rw [if_pos h0]
    refine ⟨h.ask _ _ hw, ?_⟩
    unfold askL
    split
    · simp
    · omega
  · rw [if_neg h0]
    by_cases h1 : a.f0 = 1
    · rw [if_pos h1]
      exact ⟨(h.grant _).1, by rw [(h.grant _).2]; omega⟩
    · rw [if_neg h1]
      exact ⟨(h.free _).1, Nat.le_succ_of_le (h.free _).2.length_le⟩
theorem Good.find_at {l : List Ask} (h : Good l) (i : Nat) (hi : i < l.length) : findI l l[i].f1 = (i : Int) := by
  refine findI_some l _ i hi rfl (fun j hj hlt e => ?_)
  have hp := List.pairwise_iff_getElem.1 h.ids j i (by simpa using hj) (by simpa using hi) hlt
  simp only [List.getElem_map] at hp
  exact hp e
theorem mem_idsK {l : List Ask} {p : Nat → Bool} {x : Int} : x ∈ idsK l p l.length ↔ ∃ i, ∃ (hi : i < l.length), p i = true ∧ l[i].f1 = x := by
  unfold idsK
  rw [List.mem_map]
  constructor
  · rintro ⟨i, hi, rfl⟩
    rw [List.mem_filter, List.mem_range] at hi
    exact ⟨i, hi.1, hi.2, by rw [rd61_at l i hi.1]⟩
  · rintro ⟨i, hi, hp, rfl⟩
    exact ⟨i, List.mem_filter.2 ⟨List.mem_range.2 hi, hp⟩, by rw [rd61_at l i hi]⟩
theorem Good.wants_at {l : List Ask} (h : Good l) (i : Nat) (hi : i < l.length) : wantsOf l l[i].f1 = l[i].f0.f0 := by
  unfold wantsOf
  rw [h.find_at i hi, if_neg (by omega), rd61_at l i hi]
theorem held_at (l : List Ask) (i : Nat) (hi : i < l.length) : held l i = l[i].f2 := by unfold held; rw [rd61_at l i hi]
theorem Good.safe {l : List Ask} (h : Good l) {x y : Int} (hx : x ∈ idsK l (held l) l.length) (hy : y ∈ idsK l (held l) l.length) (hne : x ≠ y) : anyClash (wantsOf l x) (wantsOf l y) = false := by
  obtain ⟨i, hi, pi, rfl⟩ := mem_idsK.1 hx
  obtain ⟨j, hj, pj, rfl⟩ := mem_idsK.1 hy
  rw [held_at l i hi] at pi
  rw [held_at l j hj] at pj
  rw [h.wants_at i hi, h.wants_at j hj]
  have hap := List.pairwise_iff_getElem.1 h.apart
  rcases Nat.lt_trichotomy i j with h1 | h1 | h1
  · exact hap i j hi hj h1 pi pj
  · subst h1; exact absurd rfl hne
  · rw [anyClash_symm]; exact hap j i hj hi h1 pj pi
theorem idsK_nodup {l : List Ask} (h : Good l) (p : Nat → Bool) : (idsK l p l.length).Nodup := by
  unfold idsK
  rw [List.Nodup, List.pairwise_map]
  refine List.Pairwise.imp_of_mem ?_ ((List.nodup_range (n := l.length)).sublist (List.filter_sublist (p := p)))
  intro a b ha hb hne e
  rw [List.mem_filter, List.mem_range] at ha hb
  rw [rd61_at l a ha.1, rd61_at l b hb.1] at e
  have h1 := h.find_at a ha.1
  rw [e, h.find_at b hb.1] at h1
  omega
/-- Of those that hold, two at two places clash not. -/
theorem Good.safe_at {l : List Ask} (h : Good l) (a b : Nat) (ha : a < (sortI (idsK l (held l) l.length)).length) (hb : b < a) : anyClash (wantsOf l ((sortI (idsK l (held l) l.length))[a])) (wantsOf l ((sortI (idsK l (held l) l.length))[b])) = false := by
  have hp : (sortI (idsK l (held l) l.length)).Perm (idsK l (held l) l.length) := List.mergeSort_perm _ _
  have hn : (sortI (idsK l (held l) l.length)).Nodup := hp.nodup_iff.2 (idsK_nodup h _)
  refine h.safe (hp.mem_iff.1 (List.getElem_mem _)) (hp.mem_iff.1 (List.getElem_mem _)) (fun e => ?_)
  exact List.pairwise_iff_getElem.1 hn b a (by omega) ha hb e.symm
theorem idsK_head (l : List Ask) (p : Nat → Bool) (n : Nat) (hp : p 0 = true) (hn : 0 < n) : ∃ r, idsK l p n = (rd_T61 l ((0 : Nat) : Int)).f1 :: r := by
  obtain ⟨m, rfl⟩ : ∃ m, n = m + 1 := ⟨n - 1, by omega⟩
  unfold idsK
  rw [List.range_succ_eq_map, List.filter_cons_of_pos hp]
  exact ⟨_, rfl⟩
theorem none_held {l : List Ask} (h : (sortI (idsK l (held l) l.length)).length = 0) (i : Nat) (hi : i < l.length) : l[i].f2 = false := by
  rw [sortI_length] at h
  cases hf : l[i].f2 with
  | false => rfl
  | true =>
    have hm : l[i].f1 ∈ idsK l (held l) l.length := mem_idsK.2 ⟨i, hi, by rw [held_at l i hi, hf], rfl⟩
    rw [List.length_eq_zero_iff.1 h] at hm
    simp at hm
theorem ready_first {l : List Ask} (h : ∀ i (hi : i < l.length), l[i].f2 = false) (hl : 0 < l.length) : readyT l 0 = true := by
  rw [readyT_all l 0 (fun k hk => ?_), rd61_at l 0 hl, h 0 hl]
  · rfl
  · unfold blocks
    rw [rd61_at l k hk, h k hk]
    by_cases hk0 : k = 0
    · rw [decide_eq_false (by omega)]; rfl
    · rw [decide_eq_false (show ¬ k < 0 by omega)]; simp
/-- Where some wait and none holds, the first that waits is the first that is ready. -/
theorem first_ready {l : List Ask} (h : (sortI (idsK l (held l) l.length)).length = 0) (hw : 0 < (idsK l (fun i => !held l i) l.length).length) : ∃ x r1 r2, idsK l (readyT l) l.length = x :: r1 ∧ idsK l (fun i => !held l i) l.length = x :: r2 := by
  have hl : 0 < l.length := by
    have := idsK_length l (fun i => !held l i) l.length
    omega
  have hn := none_held h
  obtain ⟨r1, h1⟩ := idsK_head l (readyT l) l.length (ready_first hn hl) hl
  obtain ⟨r2, h2⟩ := idsK_head l (fun i => !held l i) l.length (by show (!held l 0) = true; rw [held_at l 0 hl, hn 0 hl]; rfl) hl
  exact ⟨_, r1, r2, h1, h2⟩
theorem free_none : ∀ (r : List Int) {l : List Ask}, Good l → r.Nodup → (∀ id ∈ r, id ∈ l.map (·.f1)) → ∀ x ∈ (freeL l r).2, x.f1 ∉ r
  | [], _, _, _, _, _, _ => by simp
  | id :: r, l, h, hn, hr, x, hx => by
    obtain ⟨y, hy, hyid⟩ := List.mem_map.1 (hr id List.mem_cons_self)
    obtain ⟨i, hi, rfl⟩ := List.getElem_of_mem hy
    have hf : findI l id = (i : Int) := by rw [← hyid]; exact h.find_at i hi
    unfold freeL at hx
    rw [if_neg (by omega), hf, Int.toNat_natCast] at hx
    have hg := h.sub (List.eraseIdx_sublist l i)
    rw [List.nodup_cons] at hn
    have hno : ∀ z ∈ l.eraseIdx i, z.f1 ≠ id := fun z hz e => by
      obtain ⟨j, hj, hji, rfl⟩ := List.mem_eraseIdx_iff_getElem.1 hz
      have h1 := h.find_at j hj
      rw [e, hf] at h1
      omega
    have hr2 : ∀ q ∈ r, q ∈ (l.eraseIdx i).map (·.f1) := fun q hq => by
      obtain ⟨z, hz, rfl⟩ := List.mem_map.1 (hr q (List.mem_cons_of_mem _ hq))
      obtain ⟨j, hj, rfl⟩ := List.getElem_of_mem hz
      refine List.mem_map.2 ⟨l[j], List.mem_eraseIdx_iff_getElem.2 ⟨j, hj, fun e => ?_, rfl⟩, rfl⟩
      subst e
      rw [hyid] at hq
      exact hn.1 hq
    have h2 := free_none r hg hn.2 hr2 x hx
    have h3 := hno x ((Good.free r hg).2.subset hx)
    rw [List.mem_cons]
    rintro (e | e)
    · exact h3 e
    · exact h2 e
/-- All that hold, freed: none holds. -/
theorem free_held {l : List Ask} (h : Good l) (i : Nat) (hi : i < (freeL l (sortI (idsK l (held l) l.length))).2.length) : (freeL l (sortI (idsK l (held l) l.length))).2[i].f2 = false := by
  have hp : (sortI (idsK l (held l) l.length)).Perm (idsK l (held l) l.length) := List.mergeSort_perm _ _
  have hm := List.getElem_mem hi
  have h1 := free_none _ h (hp.nodup_iff.2 (idsK_nodup h _)) (fun id hid => by
    obtain ⟨j, hj, _, rfl⟩ := mem_idsK.1 (hp.mem_iff.1 hid)
    exact List.mem_map.2 ⟨l[j], List.getElem_mem hj, rfl⟩) _ hm
  have h2 := (Good.free (sortI (idsK l (held l) l.length)) h).2.subset hm
  generalize (freeL l (sortI (idsK l (held l) l.length))).2[i] = x at h1 h2
  obtain ⟨j, hj, rfl⟩ := List.getElem_of_mem h2
  cases hf : l[j].f2 with
  | false => rfl
  | true => exact absurd (hp.mem_iff.2 (mem_idsK.2 ⟨j, hj, by rw [held_at l j hj, hf], rfl⟩)) h1
theorem free_less {l : List Ask} (h : Good l) (hh : 0 < (sortI (idsK l (held l) l.length)).length) : (freeL l (sortI (idsK l (held l) l.length))).2.length < l.length := by
  have hs := (Good.free (sortI (idsK l (held l) l.length)) h).2
  rcases Nat.lt_or_ge (freeL l (sortI (idsK l (held l) l.length))).2.length l.length with h1 | h1
  · exact h1
  · have he := hs.eq_of_length_le h1
    have hp : (sortI (idsK l (held l) l.length)).Perm (idsK l (held l) l.length) := List.mergeSort_perm _ _
    obtain ⟨j, hj, hpj, _⟩ := mem_idsK.1 (hp.mem_iff.1 (List.getElem_mem hh))
    rw [held_at l j hj] at hpj
    have h2 := free_held h j (by rw [he]; exact hj)
    simp only [he] at h2
    rw [hpj] at h2
    cases h2
theorem hold_keeps (l : List Ask) (i j : Nat) (h : (l[j]?).map (·.f2) = some true) : ((hold l i)[j]?).map (·.f2) = some true := by
  unfold PK.hold
  rw [List.getElem?_set]
  split
  · next e =>
    subst e
    split
    · rfl
    · next hn => rw [List.getElem?_eq_none (by omega)] at h; simp at h
  · exact h
theorem grant_keeps : ∀ (ids : List Int) (l : List Ask) (j : Nat), (l[j]?).map (·.f2) = some true → ((grantL l ids).2[j]?).map (·.f2) = some true
  | [], l, j, h => h
  | id :: r, l, j, h => by
    unfold grantL
    by_cases h1 : findI l id < 0 ∨ heldAt l (findI l id) = true
    · rw [if_pos h1]; exact h
    · rw [if_neg h1]
      cases hr : readyT l (findI l id).toNat with
      | false => rw [if_pos rfl]; exact h
      | true =>
        rw [if_neg (by decide)]
        exact grant_keeps r _ j (hold_keeps l _ j h)
/-- Where none holds, who is ready is granted: some hold. -/
theorem grant_ready {l : List Ask} (h : Good l) (hn : ∀ i (hi : i < l.length), l[i].f2 = false) (hl : 0 < l.length) : 0 < (sortI (idsK (grantL l (idsK l (readyT l) l.length)).2 (held (grantL l (idsK l (readyT l) l.length)).2) (grantL l (idsK l (readyT l) l.length)).2.length)).length := by
  obtain ⟨r, hr⟩ := idsK_head l (readyT l) l.length (ready_first hn hl) hl
  rw [rd61_at l 0 hl] at hr
  rw [hr, sortI_length]
  have hf := h.find_at 0 hl
  have h1 : ¬ (findI l l[0].f1 < 0 ∨ heldAt l (findI l l[0].f1) = true) := by
    rw [hf]
    rintro (h2 | h2)
    · omega
    · unfold heldAt at h2
      rw [rd61_at l 0 hl, hn 0 hl] at h2
      cases h2
  have hg : grantL l (l[0].f1 :: r) = grantL (hold l 0) r := by
    conv => lhs; unfold grantL
    rw [if_neg h1, hf, if_neg (by show ¬ readyT l 0 = false; rw [ready_first hn hl]; decide)]
    rfl
  rw [hg]
  have h4 := grant_keeps r (hold l 0) 0 (by unfold PK.hold; rw [List.getElem?_set_self hl]; rfl)
  obtain ⟨x, hx, h3⟩ := Option.map_eq_some_iff.1 h4
  obtain ⟨h2, rfl⟩ := List.getElem?_eq_some_iff.1 hx
  refine List.length_pos_iff.2 (fun e => ?_)
  have hm : (grantL (hold l 0) r).2[0].f1 ∈ idsK (grantL (hold l 0) r).2 (held (grantL (hold l 0) r).2) (grantL (hold l 0) r).2.length := mem_idsK.2 ⟨0, h2, by rw [held_at _ 0 h2]; exact h3, rfl⟩
  rw [e] at hm
  simp at hm
end Go.Proofs.Ytbpadimcnamdpaa.PK
/- lock: LockSafe, walked. -/
namespace Go.Proofs.Ytbpadimcnamdpaa.PK
open Go.RowKit Go.Proofs.YtbpadimcnamdpaaW.PrintWords Go.Proofs.YtbpadimcnamdpaaW.PrintLast Go.Proofs.YtbpadimcnamdpaaW.PrintMore
theorem TabAt.lower {w : World} {base base' g : Nat} {S : Nat → Prop} {l : List Ask} (h : TabAt w base S g l) (hb : base' ≤ base) : TabAt w base' S g l := by
  obtain ⟨A, c, h1, h2⟩ := h.row
  exact ⟨h.own, Nat.le_trans hb h.ge, A, c, h1, Kd.R_lower h2 hb⟩
theorem R_nilF (w : World) (base : Nat) (ok : Nat → Prop) (x : Unit) : Kd.R k55 55 w base ok (.slice none 0 0) [] := Kd.R_nil _ _ _ _ _
theorem St.new {w w1 : World} {base : Nat} (hb : base ≤ w.heap.size) (ht : TabAt w1 w.heap.size (fun k => w.heap.size ≤ k) w.heap.size []) : St w1 base (fun k => w.heap.size ≤ k ∧ k < w1.heap.size) (fun _ => False) w.heap.size [] (.slice none 0 0) [] := by
  obtain ⟨A, c, h1, h2⟩ := ht.row
  have hlt := blk_lt h1
  exact ⟨(ht.lower hb).now, R_nilF _ _ _ (), fun _ h => h.elim, fun _ h => h.2, fun k h => Nat.le_trans hb h.1, fun _ h => h.elim, fun _ h => h.elim, by omega⟩
theorem rdI_at (xs : List Int) (i : Nat) (h : i < xs.length) : rd xs (i : Int) = xs[i] := by simp [rd, List.getD, h]
theorem good_small {l : List Ask} (h : Good l) : ∀ x ∈ l, x.f0.f0.length ≤ 1073741824 := fun x hx => by have := h.len x hx; omega
theorem wantsOf_len {l : List Ask} (h : Good l) (id : Int) : (wantsOf l id).length ≤ 1000 := by
  unfold wantsOf
  split
  · simp
  · rcases findI_lt l id with h1 | ⟨i, h1, h2⟩
    · omega
    · rw [h1, rd61_at l i h2]
      have := h.len _ (List.getElem_mem h2)
      omega
set_option maxHeartbeats 4000000 in
set_option maxRecDepth 100000 in
theorem LockSafe_calls (A : Option Addr) (c : Nat) (acts : List Act_) (w : World) (hC : Kd.C k26 w A acts.length acts) (hc : acts.length ≤ c) :
    Calls Try.prog 4 #[.slice A acts.length c] w fun e w' => e = .returned (.bool true) ∧ Below w.heap.size w w' := by
  have HC := Aside0.mk hC
  have hmax := Kd.C_max hC
  clear hC
  obtain ⟨gr, ⟨K, hK⟩, hgr⟩ := great_at acts
  have HK := Aside0.mk (hK K (Nat.le_refl _))
  clear hK
  go_enter Try.func4, Try.ntmps4
  go_wp2_with fail
  refine (affluxlaw22_great.calls K A c acts gr _ HC.out hc HK.out).mono ?_
  rintro e w1 ⟨rfl, hd⟩
  have HB1 := Aside0.mk hd.below
  clear hd
  cases gr with
  | true =>
    go_wp2_with fail
    refine (awake_calls _).mono ?_
    rintro e w2 ⟨rfl, hb2⟩
    replace HB1 := Aside0.mk (below_step HB1.out hb2)
    clear hb2
    go_wp2_with fail
    go_ret
    exact ⟨rfl, HB1.out⟩
  | false =>
    have HG := Aside0.mk (hgr rfl)
    clear hgr
    have hn60 := HG.out.1
    go_wp2_with fail
    refine (awake_calls _).mono ?_
    rintro e w2 ⟨rfl, hb2⟩
    replace HB1 := Aside0.mk (below_step HB1.out hb2)
    clear hb2
    go_wp2_with fail
    refine (New_calls w2).mono ?_
    rintro e w3 ⟨rfl, ht3, hb3⟩
    have HS3 := Aside0.mk (St.new (base := w.heap.size) HB1.out.size ht3)
    have HB3 := Aside0.mk (below_step HB1.out hb3)
    clear ht3 hb3 HB1
    generalize w2.heap.size = g at HS3 ⊢
    go_wp2_with fail
    go_loopg [4, 5] (acts.length + 1) (fun kq v4 v5 w' => ∃ (i : Nat) (l : List Ask) (m : List Was) (S N : Nat → Prop), v5 = .int .i64 i ∧ Aside0 (i + kq = acts.length + 1) ∧ i ≤ acts.length ∧ Aside0 (Good l ∧ l.length ≤ i ∧ m.length ≤ i ∧ ∀ x ∈ m, x.f1.length ≤ 1000) ∧ Aside0 (St w' w.heap.size S N g l v4 m) ∧ Aside0 (Below w.heap.size w w'))
    case atStart => exact ⟨0, [], [], _, _, rfl, ⟨by omega⟩, Nat.zero_le _, ⟨Good.nil, Nat.le_refl _, Nat.le_refl _, fun x hx => by simp at hx⟩, HS3, HB3⟩
    case round =>
      clear HS3 HB3
      obtain ⟨i, l, m, S, N, rfl, HK1, hi, HL, HS, HB⟩ := hrel
      cases gk with
      | zero => exact absurd HK1.out (by omega)
      | succ k1 =>
        by_cases hil : i < acts.length
        · obtain ⟨ad, A2, c2, A3, c3, e0, hx0, hx1, hx2, hx3, hl2, hr2, hl3, hr3⟩ := at_T26 HC.out (i : Int) (by omega) (by omega)
          cases e0
          simp only [Int.toNat_natCast] at hx0 hx1 hx2 hx3
          have hbd := HG.out.2 i hil
          rw [← rd26_at acts i hil] at hbd
          obtain ⟨y, hy⟩ : ∃ y, y = rd_T26 acts (i : Int) := ⟨_, rfl⟩
          rw [← hy] at hx0 hx1 hx2 hx3 hl2 hr2 hl3 hr3 hbd
          have hlt0 : (ad.add (i * 4)).block < w.heap.size := cell_lt (g := (ad.add (i * 4)).block) hx1
          have hy0 := (HB.out.cell (p := ad.add (i * 4)) hlt0).trans hx0
          have hy1 := (HB.out.cell (p := ⟨(ad.add (i * 4)).block, (ad.add (i * 4)).off + 1, none⟩) hlt0).trans hx1
          have hy2 := (HB.out.cell (p := ⟨(ad.add (i * 4)).block, (ad.add (i * 4)).off + 2, none⟩) hlt0).trans hx2
          have hy3 := (HB.out.cell (p := ⟨(ad.add (i * 4)).block, (ad.add (i * 4)).off + 3, none⟩) hlt0).trans hx3
          have HDO := Aside0.mk (does_calls w.heap.size g S N l u4 m A2 A3 c2 c3 y wr HS.out (Kd.C_below hr2 HB.out) (fun w' hb => Kd.C_below hr3 (HB.out.trans hb)) hl3 hbd.2.1 hbd.1 (by have := HL.out.2.1; omega) (by have := HL.out.2.2.1; omega) HL.out.2.2.2)
          have hBD := Aside0.mk hbd
          clear hx0 hx1 hx2 hx3 hl2 hr2 hl3 hr3 hbd hy
          go_wp2_with fail
          refine HDO.out.mono ?_
          rintro e w4 ⟨v4, m4, S4, N4, ok4, rfl, hs4, hm4, hw4, hb4⟩
          have hg4 := HL.out.1.step y hBD.out.1
          obtain ⟨l4, hl4⟩ : ∃ l4, l4 = stepL l y := ⟨_, rfl⟩
          rw [← hl4] at hs4 hg4
          have HL4 : Aside0 (Good l4 ∧ l4.length ≤ i + 1 ∧ m4.length ≤ i + 1 ∧ ∀ x ∈ m4, x.f1.length ≤ 1000) := ⟨hg4.1, by have := HL.out.2.1; have := hg4.2; omega, by have := HL.out.2.2.1; omega, hw4⟩
          have HS4 := Aside0.mk hs4
          have HB4 := Aside0.mk (HB.out.trans hb4)
          clear hs4 hm4 hw4 hb4 hg4 hl4 HDO hBD hy0 hy1 hy2 hy3 HL HS HB
          obtain ⟨A0, c0, hcell, hrow⟩ := HS4.out.tab.cell
          have HC4 := Aside0.mk hrow
          clear hrow
          go_wp2_with fail
          refine (Holding_calls g A0 c0 l4 w4 hcell HC4.out (by have := HL4.out.2.1; omega)).mono ?_
          rintro e w5 ⟨vh, rfl, ho5, hb5⟩
          obtain ⟨Ah, ch, eh⟩ := Kd.R_slice ho5
          subst eh
          obtain ⟨h, hh⟩ : ∃ h, h = sortI (idsK l4 (held l4) l4.length) := ⟨_, rfl⟩
          rw [← hh] at ho5 ⊢
          have HH := Aside0.mk hh
          obtain ⟨nh, hnh⟩ : ∃ nh, nh = h.length := ⟨_, rfl⟩
          have HNH := Aside0.mk hnh
          have HI := Aside0.mk (Kd.R_reads' ho5).2.2
          rw [← hnh] at HI ⊢
          have hnhl : nh ≤ 61 := by rw [hnh, hh, sortI_length]; have := idsK_length l4 (held l4) l4.length; have := HL4.out.2.1; omega
          have hlt4 := HS4.out.tab.lt
          have hcell5 := (hb5.cell (p := ⟨g, 0, none⟩) hlt4).trans hcell
          have HC5 := Aside0.mk (Kd.C_below HC4.out hb5)
          have HS5 := Aside0.mk (HS4.out.below hb5)
          have HB5 := Aside0.mk (HB4.out.trans (hb5.mono HS4.out.base_le))
          clear ho5 hb5 hh hnh HC4 HB4 HS4 hcell hlt4
          go_wp2_with fail
          go_loopg [7] (nh + 1) (fun kq v7 w' => ∃ a : Nat, v7 = .int .i64 a ∧ Aside0 (a + kq = nh + 1) ∧ a ≤ nh ∧ Aside0 (Below w5.heap.size w5 w'))
          case atStart => exact ⟨0, rfl, ⟨by omega⟩, Nat.zero_le _, ⟨Below.refl _ _⟩⟩
          case round =>
            obtain ⟨a, rfl, HKa, ha, HBa⟩ := hrel
            cases gk with
            | zero => exact absurd HKa.out (by omega)
            | succ k2 =>
              by_cases hal : a < nh
              · go_wp2_with fail
                go_loopg [8] (a + 1) (fun kq v8 w' => ∃ b : Nat, v8 = .int .i64 b ∧ Aside0 (b + kq = a + 1) ∧ b ≤ a ∧ Aside0 (Below w5.heap.size w5 w'))
                case atStart => exact ⟨0, rfl, ⟨by omega⟩, Nat.zero_le _, HBa⟩
                case round =>
                  clear HBa
                  obtain ⟨b, rfl, HKb, hb, HBb⟩ := hrel
                  cases gk with
                  | zero => exact absurd HKb.out (by omega)
                  | succ k3 =>
                    by_cases hbl : b < a
                    · obtain ⟨ad, e0, hxa⟩ := Kd.at_int (Kd.C_below HI.out HBb.out) (a : Int) (by omega) (by omega)
                      obtain ⟨ad2, e2, hxb⟩ := Kd.at_int (Kd.C_below HI.out HBb.out) (b : Int) (by omega) (by omega)
                      cases e0
                      cases e2
                      simp only [Int.toNat_natCast] at hxa hxb
                      have hsafe := HL4.out.1.safe_at a b (by rw [← HH.out, ← HNH.out]; exact hal) hbl
                      have hra : rd h (a : Int) = (sortI (idsK l4 (held l4) l4.length))[a]'(by rw [← HH.out, ← HNH.out]; exact hal) := by
                        simp only [HH.out]; rw [rdI_at]
                      have hrb : rd h (b : Int) = (sortI (idsK l4 (held l4) l4.length))[b]'(by rw [← HH.out, ← HNH.out]; omega) := by
                        simp only [HH.out]; rw [rdI_at]
                      rw [← hra, ← hrb] at hsafe
                      obtain ⟨ia, hia⟩ : ∃ ia, ia = rd h (a : Int) := ⟨_, rfl⟩
                      obtain ⟨ib, hib⟩ : ∃ ib, ib = rd h (b : Int) := ⟨_, rfl⟩
                      rw [← hia, ← hib] at hsafe
                      rw [← hia] at hxa
                      rw [← hib] at hxb
                      clear hra hrb hia hib
                      obtain ⟨K2, hK2⟩ := clash_at (wantsOf l4 ia) (wantsOf l4 ib) (wantsOf_len HL4.out.1 ia) (wantsOf_len HL4.out.1 ib)
                      rw [hsafe] at hK2
                      have HK2 := Aside0.mk (hK2 K2 (Nat.le_refl _))
                      clear hK2 hsafe
                      have hs73 := (HS5.out.below HBb.out).tab.lt
                      have HF : Aside0 (∀ w9, Below wr.heap.size wr w9 → w9.cell? (ad.add a) = some (.int .i64 ia) ∧ w9.cell? (ad.add b) = some (.int .i64 ib) ∧ w9.cell? ⟨g, 0, none⟩ = some (.slice A0 l4.length c0) ∧ Kd.C k61 w9 A0 l4.length l4) := ⟨fun w9 hb9 => ⟨below_cell hb9 hxa, below_cell hb9 hxb, (below_step HBb.out hb9).cell (p := ⟨g, 0, none⟩) (HS5.out.tab.lt) |>.trans hcell5, Kd.C_below HC5.out (below_step HBb.out hb9)⟩⟩
                      have hbn : b < nh := by omega
                      go_wp2_with fail
                      have HB0 : Aside0 (Below wr.heap.size wr wr.drew) := ⟨below_drew (Below.refl _ _)⟩
                      go_region_law (first | (go_simp; go_at_call 16; (with_reducible refine (Wants_calls g ia A0 c0 l4 _ ?_ ?_ ?_).mono ?_); (exact (HF.out _ (by first | exact HBY.out | exact HB0.out)).2.2.1); (exact (HF.out _ (by first | exact HBY.out | exact HB0.out)).2.2.2); (exact good_small HL4.out.1); rintro e wA ⟨va, rfl, hoa, hba⟩; have HBX := Aside0.mk (below_step (by first | exact HBY.out | exact HB0.out : Below wr.heap.size wr _) hba); obtain ⟨f1, f2, f3, f4⟩ := HF.out _ HBX.out; obtain ⟨Aa, ca, ea⟩ := Kd.R_slice hoa; subst ea; have HOA := Aside0.mk hoa; have HBA := Aside0.mk hba; clear hoa hba f3 f4) | (go_simp; go_at_call 16; (with_reducible refine (Wants_calls g ib A0 c0 l4 _ ?_ ?_ ?_).mono ?_); (exact (HF.out _ (by first | exact HBX.out | exact HB0.out)).2.2.1); (exact (HF.out _ (by first | exact HBX.out | exact HB0.out)).2.2.2); (exact good_small HL4.out.1); rintro e wB ⟨vb, rfl, hob, hbb⟩; have HBY := Aside0.mk (below_step (by first | exact HBX.out | exact HB0.out : Below wr.heap.size wr _) hbb); obtain ⟨f1, f2, f3, f4⟩ := HF.out _ HBY.out; obtain ⟨Ab, cb, eb⟩ := Kd.R_slice hob; subst eb; have HOB := Aside0.mk hob; have HBB := Aside0.mk hbb; clear hob hbb f3 f4) | (go_simp; go_at_call 9; refine (affluxlaw22_clash.calls K2 Aa ca (wantsOf l4 ia) Ab cb (wantsOf l4 ib) false _ ?_ (by first | exact (Kd.R_reads' HOA.out).2.1) ?_ (by exact (Kd.R_reads' HOB.out).2.1) HK2.out).mono ?_; (first | exact (Kd.R_reads' HOA.out).2.2 | exact (Kd.C_below (Kd.R_reads' HOA.out).2.2 HBB.out)); (first | exact (Kd.R_reads' HOB.out).2.2 | exact (Kd.C_below (Kd.R_reads' HOB.out).2.2 HBA.out)); rintro e wC ⟨rfl, ⟨nC, hwC⟩⟩; have HBZ : Aside0 (Below wr.heap.size wr wC) := ⟨by rw [hwC]; first | exact pw_below_drewN HBY.out nC | exact pw_below_drewN HBX.out nC⟩; clear hwC))
                      all_goals
                        go_wp2
                        go_roundg k3
                        case measure => have := HKb.out; omega
                        case rel => exact ⟨b + 1, by go_num, ⟨by have := HKb.out; omega⟩, by omega, ⟨below_step HBb.out HBZ.out⟩⟩
                    · go_wp2_with fail
                      go_roundg k2
                      case measure => have := HKa.out; omega
                      case rel => exact ⟨a + 1, by go_num, ⟨by have := HKa.out; omega⟩, by omega, HBb⟩
              · have hs6 := HS5.out.below HBa.out
                have HF : Aside0 (∀ w9, Below wr.heap.size wr w9 → w9.cell? ⟨g, 0, none⟩ = some (.slice A0 l4.length c0) ∧ Kd.C k61 w9 A0 l4.length l4) := ⟨fun w9 hb9 => ⟨(below_step HBa.out hb9).cell (p := ⟨g, 0, none⟩) (HS5.out.tab.lt) |>.trans hcell5, Kd.C_below HC5.out (below_step HBa.out hb9)⟩⟩
                clear hs6
                go_wp2_with fail
                refine (Waiting_calls g A0 c0 l4 wr (HF.out _ (Below.refl _ _)).1 (HF.out _ (Below.refl _ _)).2 (by have := HL4.out.2.1; omega)).mono ?_
                rintro e w6 ⟨vw, rfl, ho6, hb6⟩
                obtain ⟨Aw, cw, ew⟩ := Kd.R_slice ho6
                subst ew
                obtain ⟨q, hq⟩ : ∃ q, q = idsK l4 (fun i => !held l4 i) l4.length := ⟨_, rfl⟩
                rw [← hq] at ho6 ⊢
                have HQ := Aside0.mk hq
                obtain ⟨nq, hnq⟩ : ∃ nq, nq = q.length := ⟨_, rfl⟩
                have HNQ := Aside0.mk hnq
                have HIW := Aside0.mk (Kd.R_reads' ho6).2.2
                rw [← hnq] at HIW ⊢
                have HB6 := Aside0.mk hb6
                clear ho6 hb6 hq hnq
                have hfin : ∀ w9, Below wr.heap.size wr w9 → Aside0 (St w9 w.heap.size S4 N4 g l4 v4 m4) ∧ Aside0 (Below w.heap.size w w9) := fun w9 hb9 => ⟨⟨HS5.out.below (below_step HBa.out hb9)⟩, ⟨HB5.out.trans ((below_step HBa.out hb9).mono HS5.out.base_le)⟩⟩
                have HFIN := Aside0.mk hfin
                clear hfin
                by_cases hn0 : nh = 0
                · have hb0 : ((nh : Int) == 0) = true := by rw [hn0]; rfl
                  by_cases hw0 : nq = 0
                  · have hb1 : decide (0 < nq) = false := by rw [hw0]; rfl
                    clear hn0 hw0
                    go_wp2_with fail
                    go_quiet (fail)
                    go_wp2_with fail
                    go_roundg k1
                    case measure => have := HK1.out; omega
                    case rel => exact ⟨i + 1, l4, m4, S4, N4, by go_num, ⟨by have := HK1.out; omega⟩, by omega, HL4, (HFIN.out _ (pw_below_drewN HB6.out _)).1, (HFIN.out _ (pw_below_drewN HB6.out _)).2⟩
                  · have hb1 : decide (0 < nq) = true := decide_eq_true (by omega)
                    obtain ⟨x, r1, r2, hr1, hr2⟩ := first_ready (l := l4) (by rw [← HH.out, ← HNH.out, hn0]) (by rw [← HQ.out, ← HNQ.out]; omega)
                    obtain ⟨adq, eq0, hxq⟩ := Kd.at_int HIW.out 0 (by omega) (by omega)
                    cases eq0
                    have hq0 : rd q 0 = x := by rw [HQ.out, hr2]; rfl
                    rw [hq0] at hxq
                    have hxq0 : w6.cell? adq = some (.int .i64 x) := by simpa [Addr.add] using hxq
                    clear hxq
                    have HR1 := Aside0.mk hr1
                    have hnq0 : 0 < nq := by omega
                    clear hn0 hw0 hr1 hr2 hq0
                    go_wp2_with fail
                    refine start_ (n := 24) (S := fun w' => w'.cell? adq = some (.int .i64 x)) (ds := []) #[false, false, false, false, false, false, false, false, false, false, false, false, false, false, false, false, false, false, false, false, false, false, false, false] (by kernel_rfl) rfl rfl (below_cell (below_drew (Below.refl _ _)) hxq0) (fun hHeld => ?_)
                    have HB7 := Aside0.mk (below_drew HB6.out)
                    generalize w6.drew = w7 at HB7 hHeld ⊢
                    refine pure_ (i := 0) (N := some 64) (v := ?_) (a' := ?_) #[true, false, false, false, false, false, false, false, false, false, false, false, false, false, false, false, false, false, false, false, false, false, false, false] rfl rfl (by kernel_rfl) (fun _ _ _ h => h) (Or.inl ⟨by rfl, ?_⟩) ?_ ?_
                    rotate_left
                    · intro w'
                      go_simp
                      with_reducible rfl
                    rotate_left
                    · simp only [Act.put, List.setIfInBounds_toArray, List.set_cons_zero, List.set_cons_succ, i64_w, i32_w]
                      rfl
                    refine pure_ (i := 1) (N := some 65) (v := ?_) (a' := ?_) #[true, true, false, false, false, false, false, false, false, false, false, false, false, false, false, false, false, false, false, false, false, false, false, false] rfl rfl (by kernel_rfl) (fun _ _ _ h => h) (Or.inl ⟨by rfl, ?_⟩) ?_ ?_
                    rotate_left
                    · intro w'
                      go_simp
                      with_reducible rfl
                    rotate_left
                    · simp only [Act.put, List.setIfInBounds_toArray, List.set_cons_zero, List.set_cons_succ, i64_w, i32_w]
                      rfl
                    refine pure_ (i := 2) (N := some 66) (v := ?_) (a' := ?_) #[true, true, true, false, false, false, false, false, false, false, false, false, false, false, false, false, false, false, false, false, false, false, false, false] rfl rfl (by kernel_rfl) (fun _ _ _ h => h) (Or.inl ⟨by rfl, ?_⟩) ?_ ?_
                    rotate_left
                    · intro w'
                      go_simp
                      with_reducible rfl
                    rotate_left
                    · simp only [Act.put, List.setIfInBounds_toArray, List.set_cons_zero, List.set_cons_succ, i64_w, i32_w]
                      rfl
                    refine pure_ (i := 3) (N := some 67) (v := ?_) (a' := ?_) #[true, true, true, true, false, false, false, false, false, false, false, false, false, false, false, false, false, false, false, false, false, false, false, false] rfl rfl (by kernel_rfl) (fun _ _ _ h => h) (Or.inl ⟨by rfl, ?_⟩) ?_ ?_
                    rotate_left
                    · intro w'
                      go_simp
                      with_reducible rfl
                    rotate_left
                    · simp only [Act.put, List.setIfInBounds_toArray, List.set_cons_zero, List.set_cons_succ, i64_w, i32_w]
                      rfl
                    refine pure_ (i := 4) (N := some 68) (v := ?_) (a' := ?_) #[true, true, true, true, true, false, false, false, false, false, false, false, false, false, false, false, false, false, false, false, false, false, false, false] rfl rfl (by kernel_rfl) (fun _ _ _ h => h) (Or.inl ⟨by rfl, ?_⟩) ?_ ?_
                    rotate_left
                    · intro w'
                      go_simp
                      with_reducible rfl
                    rotate_left
                    · simp only [Act.put, List.setIfInBounds_toArray, List.set_cons_zero, List.set_cons_succ, i64_w, i32_w]
                      rfl
                    refine pure_ (i := 5) (N := some 69) (v := ?_) (a' := ?_) #[true, true, true, true, true, true, false, false, false, false, false, false, false, false, false, false, false, false, false, false, false, false, false, false] rfl rfl (by kernel_rfl) (fun _ _ _ h => h) (Or.inl ⟨by rfl, ?_⟩) ?_ ?_
                    rotate_left
                    · intro w'
                      go_simp
                      with_reducible rfl
                    rotate_left
                    · simp only [Act.put, List.setIfInBounds_toArray, List.set_cons_zero, List.set_cons_succ, i64_w, i32_w]
                      rfl
                    refine pure_ (i := 6) (N := some 70) (v := ?_) (a' := ?_) #[true, true, true, true, true, true, true, false, false, false, false, false, false, false, false, false, false, false, false, false, false, false, false, false] rfl rfl (by kernel_rfl) (fun _ _ _ h => h) (Or.inl ⟨by rfl, ?_⟩) ?_ ?_
                    rotate_left
                    · intro w'
                      go_simp
                      with_reducible rfl
                    rotate_left
                    · simp only [Act.put, List.setIfInBounds_toArray, List.set_cons_zero, List.set_cons_succ, i64_w, i32_w]
                      rfl
                    refine pure_ (i := 7) (N := some 71) (v := ?_) (a' := ?_) #[true, true, true, true, true, true, true, true, false, false, false, false, false, false, false, false, false, false, false, false, false, false, false, false] rfl rfl (by kernel_rfl) (fun _ _ _ h => h) (Or.inl ⟨by rfl, ?_⟩) ?_ ?_
                    rotate_left
                    · intro w'
                      go_simp
                      with_reducible rfl
                    rotate_left
                    · simp only [Act.put, List.setIfInBounds_toArray, List.set_cons_zero, List.set_cons_succ, i64_w, i32_w]
                      rfl
                    refine pure_ (i := 8) (N := some 72) (v := ?_) (a' := ?_) #[true, true, true, true, true, true, true, true, true, false, false, false, false, false, false, false, false, false, false, false, false, false, false, false] rfl rfl (by kernel_rfl) (fun _ _ _ h => h) (Or.inl ⟨by rfl, ?_⟩) ?_ ?_
                    rotate_left
                    · intro w'
                      go_simp
                      with_reducible rfl
                    rotate_left
                    · simp only [Act.put, List.setIfInBounds_toArray, List.set_cons_zero, List.set_cons_succ, i64_w, i32_w]
                      rfl
                    refine pure_ (i := 9) (N := some 73) (v := ?_) (a' := ?_) #[true, true, true, true, true, true, true, true, true, true, false, false, false, false, false, false, false, false, false, false, false, false, false, false] rfl rfl (by kernel_rfl) (fun _ _ _ h => h) (Or.inl ⟨by rfl, ?_⟩) ?_ ?_
                    rotate_left
                    · intro w'
                      go_simp
                      with_reducible rfl
                    rotate_left
                    · simp only [Act.put, List.setIfInBounds_toArray, List.set_cons_zero, List.set_cons_succ, i64_w, i32_w]
                      rfl
                    refine one_ (i := 10) (N := some 74) #[true, true, true, true, true, true, true, true, true, true, true, false, false, false, false, false, false, false, false, false, false, false, false, false] rfl rfl (by kernel_rfl) (by decide) (fun K hK => ?_)
                    refine goes_ Try.func18 (by kernel_rfl) rfl #[.pointer (some ⟨g, 0, none⟩)] (by rfl) rfl rfl (by (try simp only [List.map_toArray, List.map_cons, List.map_nil]); first | done | rfl) ?_
                    with_reducible refine (Ready_calls g A0 c0 l4 w7 (HF.out _ HB7.out).1 (HF.out _ HB7.out).2 (by have := HL4.out.2.1; omega)).mono ?_
                    rintro e w8 ⟨v8, rfl, ho8, hb8⟩
                    rw [HR1.out] at ho8
                    obtain ⟨A8, c8, e8⟩ := Kd.R_slice ho8
                    subst e8
                    obtain ⟨ad8, eq8, hx8⟩ := Kd.at_int (Kd.R_reads' ho8).2.2 0 (by omega) (by simp)
                    cases eq8
                    have hy8 : w8.cell? ad8 = some (.int .i64 x) := by simpa [Addr.add, rd] using hx8
                    have HB8 := Aside0.mk (below_step HB7.out hb8)
                    have hs8 := below_cell hb8 hHeld
                    clear hx8 ho8 hb8 hHeld
                    refine ⟨_, rfl, ?_⟩
                    refine hK.out _ _ hs8 (fun hHeld => ?_)
                    clear hK K
                    refine norm_ (a' := ?_) ?_ ?_
                    rotate_left
                    · show Act.put _ (some 74) _ = _
                      simp only [Act.put, List.setIfInBounds_toArray, List.set_cons_zero, List.set_cons_succ, i64_w, i32_w]
                      rfl
                    refine pure_ (i := 11) (N := some 75) (v := ?_) (a' := ?_) #[true, true, true, true, true, true, true, true, true, true, true, true, false, false, false, false, false, false, false, false, false, false, false, false] rfl rfl (by kernel_rfl) (fun _ _ _ h => h) (Or.inl ⟨by rfl, ?_⟩) ?_ ?_
                    rotate_left
                    · intro w'
                      go_simp
                      with_reducible rfl
                    rotate_left
                    · simp only [Act.put, List.setIfInBounds_toArray, List.set_cons_zero, List.set_cons_succ, i64_w, i32_w]
                      rfl
                    refine pure_ (i := 12) (N := some 76) (v := ?_) (a' := ?_) #[true, true, true, true, true, true, true, true, true, true, true, true, true, false, false, false, false, false, false, false, false, false, false, false] rfl rfl (by kernel_rfl) (fun _ _ _ h => h) (Or.inl ⟨by rfl, ?_⟩) ?_ ?_
                    rotate_left
                    · intro w'
                      go_simp
                      with_reducible rfl
                    rotate_left
                    · simp only [Act.put, List.setIfInBounds_toArray, List.set_cons_zero, List.set_cons_succ, i64_w, i32_w]
                      rfl
                    refine pure_ (i := 13) (N := some 77) (v := ?_) (a' := ?_) #[true, true, true, true, true, true, true, true, true, true, true, true, true, true, false, false, false, false, false, false, false, false, false, false] rfl rfl (by kernel_rfl) (fun _ _ _ h => h) (Or.inl ⟨by rfl, ?_⟩) ?_ ?_
                    rotate_left
                    · intro w'
                      go_simp
                      with_reducible rfl
                    rotate_left
                    · simp only [Act.put, List.setIfInBounds_toArray, List.set_cons_zero, List.set_cons_succ, i64_w, i32_w]
                      rfl
                    refine pure_ (i := 14) (N := some 78) (v := ?_) (a' := ?_) #[true, true, true, true, true, true, true, true, true, true, true, true, true, true, true, false, false, false, false, false, false, false, false, false] rfl rfl (by kernel_rfl) (fun _ _ _ h => h) (Or.inl ⟨by rfl, ?_⟩) ?_ ?_
                    rotate_left
                    · intro w'
                      go_simp
                      with_reducible rfl
                    rotate_left
                    · simp only [Act.put, List.setIfInBounds_toArray, List.set_cons_zero, List.set_cons_succ, i64_w, i32_w]
                      rfl
                    refine pure_ (i := 18) (N := some 82) (v := ?_) (a' := ?_) #[true, true, true, true, true, true, true, true, true, true, true, true, true, true, true, false, false, false, true, false, false, false, false, false] rfl rfl (by kernel_rfl) (fun _ _ _ h => h) (Or.inl ⟨by rfl, ?_⟩) ?_ ?_
                    rotate_left
                    · intro w'
                      go_simp
                      with_reducible rfl
                    rotate_left
                    · simp only [Act.put, List.setIfInBounds_toArray, List.set_cons_zero, List.set_cons_succ, i64_w, i32_w]
                      rfl
                    refine pure_ (i := 19) (N := some 83) (v := ?_) (a' := ?_) #[true, true, true, true, true, true, true, true, true, true, true, true, true, true, true, false, false, false, true, true, false, false, false, false] rfl rfl (by kernel_rfl) (fun _ _ _ h => h) (Or.inl ⟨by rfl, ?_⟩) ?_ ?_
                    rotate_left
                    · intro w'
                      go_simp
                      with_reducible rfl
                    rotate_left
                    · simp only [Act.put, List.setIfInBounds_toArray, List.set_cons_zero, List.set_cons_succ, i64_w, i32_w]
                      rfl
                    refine take_ (i := 20) (N := some 84) (v := ?_) (a' := ?_) #[true, true, true, true, true, true, true, true, true, true, true, true, true, true, true, false, false, false, true, true, true, false, false, false] rfl rfl (by kernel_rfl) (fun _ _ _ h => h) (Or.inl ⟨by rfl, ?_⟩) hHeld ?_ ?_
                    rotate_left
                    · rintro w' s0
                      go_simp
                      with_reducible rfl
                    rotate_left
                    · simp only [Act.put, List.setIfInBounds_toArray, List.set_cons_zero, List.set_cons_succ, i64_w, i32_w]
                      rfl
                    refine one_ (i := 15) (N := some 79) #[true, true, true, true, true, true, true, true, true, true, true, true, true, true, true, true, false, false, true, true, true, false, false, false] rfl rfl (by kernel_rfl) (by decide) (fun K hK => ?_)
                    refine goes_ Try.func18 (by kernel_rfl) rfl #[.pointer (some ⟨g, 0, none⟩)] (by rfl) rfl rfl (by (try simp only [List.map_toArray, List.map_cons, List.map_nil]); first | done | rfl) ?_
                    with_reducible refine (Ready_calls g A0 c0 l4 w8 (HF.out _ HB8.out).1 (HF.out _ HB8.out).2 (by have := HL4.out.2.1; omega)).mono ?_
                    rintro e w9 ⟨v9, rfl, ho9, hb9⟩
                    rw [HR1.out] at ho9
                    obtain ⟨A9, c9, e9⟩ := Kd.R_slice ho9
                    subst e9
                    obtain ⟨ad9, eq9, hx9⟩ := Kd.at_int (Kd.R_reads' ho9).2.2 0 (by omega) (by simp)
                    cases eq9
                    have hy9 : w9.cell? ad9 = some (.int .i64 x) := by simpa [Addr.add, rd] using hx9
                    have HB9 := Aside0.mk (below_step HB8.out hb9)
                    have hs9 := below_cell hb9 hHeld
                    clear hx9 ho9 hb9 hHeld
                    refine ⟨_, rfl, ?_⟩
                    refine hK.out _ _ hs9 (fun hHeld => ?_)
                    clear hK K
                    refine norm_ (a' := ?_) ?_ ?_
                    rotate_left
                    · show Act.put _ (some 79) _ = _
                      simp only [Act.put, List.setIfInBounds_toArray, List.set_cons_zero, List.set_cons_succ, i64_w, i32_w]
                      rfl
                    refine pure_ (i := 16) (N := some 80) (v := ?_) (a' := ?_) #[true, true, true, true, true, true, true, true, true, true, true, true, true, true, true, true, true, false, true, true, true, false, false, false] rfl rfl (by kernel_rfl) (fun _ _ _ h => h) (Or.inl ⟨by rfl, ?_⟩) ?_ ?_
                    rotate_left
                    · intro w'
                      go_simp
                      with_reducible rfl
                    rotate_left
                    · simp only [Act.put, List.setIfInBounds_toArray, List.set_cons_zero, List.set_cons_succ, i64_w, i32_w]
                      rfl
                    refine one_ (i := 17) (N := some 81) #[true, true, true, true, true, true, true, true, true, true, true, true, true, true, true, true, true, true, true, true, true, false, false, false] rfl rfl (by kernel_rfl) (by decide) (fun K hK => ?_)
                    refine value_ (by rfl) rfl (v := .int .i64 x) (w1 := w9) (by go_simp) ?_
                    refine hK.out _ _ hHeld (fun hHeld => ?_)
                    clear hK K
                    refine norm_ (a' := ?_) ?_ ?_
                    rotate_left
                    · show Act.put _ (some 81) _ = _
                      simp only [Act.put, List.setIfInBounds_toArray, List.set_cons_zero, List.set_cons_succ, i64_w, i32_w]
                      rfl
                    refine pure_ (i := 21) (N := some 85) (v := ?_) (a' := ?_) #[true, true, true, true, true, true, true, true, true, true, true, true, true, true, true, true, true, true, true, true, true, true, false, false] rfl rfl (by kernel_rfl) (fun _ _ _ h => h) (Or.inl ⟨by rfl, ?_⟩) ?_ ?_
                    rotate_left
                    · intro w'
                      go_simp
                      with_reducible rfl
                    rotate_left
                    · simp only [Act.put, List.setIfInBounds_toArray, List.set_cons_zero, List.set_cons_succ, i64_w, i32_w]
                      rfl
                    refine pure_ (i := 22) (N := some 86) (v := ?_) (a' := ?_) #[true, true, true, true, true, true, true, true, true, true, true, true, true, true, true, true, true, true, true, true, true, true, true, false] rfl rfl (by kernel_rfl) (fun _ _ _ h => h) (Or.inl ⟨by rfl, ?_⟩) ?_ ?_
                    rotate_left
                    · intro w'
                      go_simp
                      with_reducible rfl
                    rotate_left
                    · simp only [Act.put, List.setIfInBounds_toArray, List.set_cons_zero, List.set_cons_succ, i64_w, i32_w]
                      rfl
                    refine pure_ (i := 23) (N := some 87) (v := ?_) (a' := ?_) #[true, true, true, true, true, true, true, true, true, true, true, true, true, true, true, true, true, true, true, true, true, true, true, true] rfl rfl (by kernel_rfl) (fun _ _ _ h => h) (Or.inl ⟨by rfl, ?_⟩) ?_ ?_
                    rotate_left
                    · intro w'
                      go_simp
                      with_reducible rfl
                    rotate_left
                    · simp only [Act.put, List.setIfInBounds_toArray, List.set_cons_zero, List.set_cons_succ, i64_w, i32_w]
                      rfl
                    refine done_ (by kernel_rfl) ?_
                    go_wp2
                    go_roundg k1
                    case measure => have := HK1.out; omega
                    case rel => exact ⟨i + 1, l4, m4, S4, N4, by go_num, ⟨by have := HK1.out; omega⟩, by omega, HL4, (HFIN.out _ HB9.out).1, (HFIN.out _ HB9.out).2⟩
                · have hb0 : ((nh : Int) == 0) = false := beq_eq_false_iff_ne.2 (by omega)
                  clear hn0
                  go_wp2_with fail
                  go_quiet (fail)
                  go_wp2_with fail
                  go_roundg k1
                  case measure => have := HK1.out; omega
                  case rel => exact ⟨i + 1, l4, m4, S4, N4, by go_num, ⟨by have := HK1.out; omega⟩, by omega, HL4, (HFIN.out _ (pw_below_drewN HB6.out _)).1, (HFIN.out _ (pw_below_drewN HB6.out _)).2⟩
        · have hie : i = acts.length := by omega
          subst hie
          clear hil hi
          obtain ⟨A0, c0, hcell, hrow⟩ := HS.out.tab.cell
          go_wp2_with fail
          refine (Holding_calls g A0 c0 l wr hcell hrow (by have := HL.out.2.1; omega)).mono ?_
          rintro e w5 ⟨vh, rfl, ho5, hb5⟩
          obtain ⟨Ah, ch, eh⟩ := Kd.R_slice ho5
          subst eh
          have HFR := Aside0.mk (free_step w.heap.size g S N l u4 m (sortI (idsK l (held l) l.length)) Ah ch w5 (HS.out.below hb5) (Kd.R_reads' ho5).2.2 (fun ad0 he0 hs0 => by
            have h1 := Kd.R_base ho5 ad0.block (by rw [he0]; cases ad0; simp [Value.ownBlock])
            have h2 := HS.out.ltS _ hs0
            omega) (by have := HL.out.2.1; omega))
          have HNH := Aside0.mk (fun j hj => free_held HL.out.1 j hj)
          have HG5 := Aside0.mk (Good.free (sortI (idsK l (held l) l.length)) HL.out.1)
          have HB5 := Aside0.mk (HB.out.trans (hb5.mono HS.out.base_le))
          clear hcell hrow hb5 ho5 HS HB
          go_wp2_with fail
          refine HFR.out.mono ?_
          rintro e w6 ⟨rfl, ⟨S6, hs6⟩, hb6⟩
          obtain ⟨l6, hl6⟩ : ∃ l6, l6 = (freeL l (sortI (idsK l (held l) l.length))).2 := ⟨_, rfl⟩
          rw [← hl6] at hs6 HNH HG5
          have HS6 := Aside0.mk hs6
          have HB6 := Aside0.mk (HB5.out.trans hb6)
          have HL6 : Aside0 (Good l6 ∧ (∀ i (hi : i < l6.length), l6[i].f2 = false) ∧ l6.length + 0 ≤ acts.length) := ⟨HG5.out.1, HNH.out, by have := HG5.out.2.length_le; have := HL.out.2.1; omega⟩
          clear hs6 hb6 hl6 HFR HNH HG5 HB5 HL
          generalize acts.length = na at HL6 hn60 hmax ⊢
          go_wp2_with fail
          go_loopg [10, 11] (na + 1) (fun kq v10 _ w' => ∃ (i : Nat) (l : List Ask) (S : Nat → Prop), v10 = .int .i64 i ∧ Aside0 (i + kq = na + 1) ∧ i ≤ na ∧ Aside0 (Good l ∧ (∀ i (hi : i < l.length), l[i].f2 = false) ∧ l.length + i ≤ na) ∧ Aside0 (St w' w.heap.size S N g l u4 m) ∧ Aside0 (Below w.heap.size w w'))
          case atStart => exact ⟨0, l6, S6, rfl, ⟨by omega⟩, Nat.zero_le _, HL6, HS6, HB6⟩
          case round =>
            clear HS6 HB6 HL6 l6 S6
            obtain ⟨i, l, S, rfl, HK1, hi, HL, HS, HB⟩ := hrel
            cases gk with
            | zero => exact absurd HK1.out (by omega)
            | succ k1 =>
              obtain ⟨A0, c0, hcell, hrow⟩ := HS.out.tab.cell
              go_wp2_with fail
              refine (Ready_calls g A0 c0 l wr hcell hrow (by have := HL.out.2.2; omega)).mono ?_
              rintro e w7 ⟨vr, rfl, ho7, hb7⟩
              obtain ⟨Ar, cr, er⟩ := Kd.R_slice ho7
              subst er
              obtain ⟨q, hq⟩ : ∃ q, q = idsK l (readyT l) l.length := ⟨_, rfl⟩
              rw [← hq] at ho7 ⊢
              have HQ := Aside0.mk hq
              obtain ⟨nq, hnq⟩ : ∃ nq, nq = q.length := ⟨_, rfl⟩
              have HNQ := Aside0.mk hnq
              have HO7 := Aside0.mk ho7
              rw [← hnq] at HO7 ⊢
              have HS7 := Aside0.mk (HS.out.below hb7)
              have HB7 := Aside0.mk (HB.out.trans (hb7.mono HS.out.base_le))
              have HW7 : Aside0 (wr.heap.size = wr.heap.size) := ⟨rfl⟩
              have HFAR : Aside0 (∀ ad, Ar = some ad → ¬ S ad.block) := ⟨fun ad0 he0 hs0 => by
                have h1 := Kd.R_base ho7 ad0.block (by rw [he0]; cases ad0; simp [Value.ownBlock])
                have h2 := HS.out.ltS _ hs0
                omega⟩
              clear hcell hrow hb7 ho7 hq hnq HS HB HW7
              by_cases hn0 : nq = 0
              · have hb0 : ((nq : Int) == 0) = true := by rw [hn0]; rfl
                have hl0 : l = [] := by
                  by_cases hl : 0 < l.length
                  · obtain ⟨r, hr⟩ := idsK_head l (readyT l) l.length (ready_first HL.out.2.1 hl) hl
                    have h2 := HNQ.out
                    rw [HQ.out, hr, List.length_cons] at h2
                    omega
                  · exact List.length_eq_zero_iff.1 (by omega)
                subst hl0
                obtain ⟨A1, c1, hcell1, hrow1⟩ := HS7.out.tab.cell
                have HC1 := Aside0.mk hrow1
                clear hrow1 hn0
                go_wp2_with fail
                refine (Waiting_calls g A1 c1 [] w7 hcell1 HC1.out (by decide)).mono ?_
                rintro e w8 ⟨vw, rfl, ho8, hb8⟩
                obtain ⟨Aw, cw, ew⟩ := Kd.R_slice ho8
                subst ew
                have hcell8 := (hb8.cell (p := ⟨g, 0, none⟩) HS7.out.tab.lt).trans hcell1
                have HC8 := Aside0.mk (Kd.C_below HC1.out hb8)
                have HS8 := Aside0.mk (HS7.out.below hb8)
                have HB8 := Aside0.mk (HB7.out.trans (hb8.mono HS7.out.base_le))
                clear ho8 hb8 hcell1 HS7 HB7 HC1
                go_wp2_with fail
                refine (Holding_calls g A1 c1 [] w8 hcell8 HC8.out (by decide)).mono ?_
                rintro e w9 ⟨vh, rfl, ho9, hb9⟩
                obtain ⟨Ah, ch, eh⟩ := Kd.R_slice ho9
                subst eh
                rw [show (sortI (idsK ([] : List Ask) (held []) ([] : List Ask).length)).length = 0 from by rw [sortI_length]; rfl]
                have HB9 := Aside0.mk (HB8.out.trans (hb9.mono HS8.out.base_le))
                clear ho9 hb9 hcell8
                go_wp2
                go_ret
                exact ⟨rfl, HB9.out⟩
              · have hb0 : ((nq : Int) == 0) = false := beq_eq_false_iff_ne.2 (by omega)
                have hl0 : 0 < l.length := by
                  by_cases hl : 0 < l.length
                  · exact hl
                  · have e0 : l = [] := List.length_eq_zero_iff.1 (by omega)
                    subst e0
                    have h2 := HNQ.out
                    rw [HQ.out] at h2
                    exact absurd h2 hn0
                clear hn0
                have HGR := Aside0.mk (grant_step w.heap.size g S N l u4 m q Ar cr w7 HS7.out (Kd.R_reads' HO7.out).2.2 HFAR.out (by have := HL.out.2.2; omega))
                rw [← HNQ.out] at HGR
                have hgg := Good.grant q HL.out.1
                have hrd := grant_ready HL.out.1 HL.out.2.1 hl0
                rw [← HQ.out] at hrd
                obtain ⟨l2, hl2⟩ : ∃ l2, l2 = (grantL l q).2 := ⟨_, rfl⟩
                obtain ⟨code, hcode⟩ : ∃ code, code = (grantL l q).1 := ⟨_, rfl⟩
                rw [← hl2] at HGR hgg hrd
                rw [← hcode] at HGR
                have HL2 : Aside0 (Good l2 ∧ l2.length = l.length ∧ 0 < (sortI (idsK l2 (held l2) l2.length)).length) := ⟨hgg.1, hgg.2, hrd⟩
                clear hgg hrd hl2 hcode HO7 HFAR HNQ HQ
                go_wp2_with fail
                refine HGR.out.mono ?_
                rintro e w8 ⟨rfl, ⟨S8, hs8⟩, hb8⟩
                have HS8 := Aside0.mk hs8
                have HB8 := Aside0.mk (HB7.out.trans hb8)
                have hlq := HL2.out.2.1
                have hlr := HL.out.2.2
                clear hs8 hb8 HGR HS7 HB7
                by_cases hc0 : code = 0
                · subst hc0
                  clear hlq hlr
                  go_wp2_with fail
                  obtain ⟨A2, c2, hcell2, hrow2⟩ := HS8.out.tab.cell
                  refine (Holding_calls g A2 c2 l2 w8 hcell2 hrow2 (by have h1 := HL2.out.2.1; have h2 := HL.out.2.2; omega)).mono ?_
                  rintro e w10 ⟨vh2, rfl, ho10, hb10⟩
                  obtain ⟨Ah2, ch2, eh2⟩ := Kd.R_slice ho10
                  subst eh2
                  have HFR := Aside0.mk (free_step w.heap.size g S8 N l2 u4 m (sortI (idsK l2 (held l2) l2.length)) Ah2 ch2 w10 (HS8.out.below hb10) (Kd.R_reads' ho10).2.2 (fun ad0 he0 hs0 => by
                    have h1 := Kd.R_base ho10 ad0.block (by rw [he0]; cases ad0; simp [Value.ownBlock])
                    have h2 := HS8.out.ltS _ hs0
                    omega) (by have h1 := HL2.out.2.1; have h2 := HL.out.2.2; omega))
                  have HB10 := Aside0.mk (HB8.out.trans (hb10.mono HS8.out.base_le))
                  clear hcell2 hrow2 hb10 ho10
                  go_wp2_with fail
                  refine HFR.out.mono ?_
                  rintro e w11 ⟨rfl, ⟨S11, hs11⟩, hb11⟩
                  have HB11 := Aside0.mk (HB10.out.trans hb11)
                  have HS11 := Aside0.mk hs11
                  clear hb11 hs11 HFR
                  go_wp2_with fail
                  go_roundg k1
                  case measure => have := HK1.out; omega
                  case rel =>
                    have hgd := HL2.out.2.2
                    have hfr := Good.free (sortI (idsK l2 (held l2) l2.length)) HL2.out.1
                    have hls := free_less HL2.out.1 hgd
                    have hl2 := HL2.out.2.1
                    have hl3 := HL.out.2.2
                    exact ⟨i + 1, _, S11, by go_num, ⟨by have := HK1.out; omega⟩, by omega, ⟨hfr.1, fun j hj => free_held HL2.out.1 j hj, by omega⟩, HS11, HB11⟩
                · have hc1 : (code != 0) = true := bne_iff_ne.2 hc0
                  have hc2 : (code == 0) = false := beq_eq_false_iff_ne.2 hc0
                  obtain ⟨A9, c9, hcell9, hrow9⟩ := HS8.out.tab.cell
                  have HC9 := Aside0.mk hrow9
                  have HN9 : Aside0 (l2.length ≤ 1099511627776) := ⟨by omega⟩
                  clear hlq hlr hrow9
                  go_wp2_with fail
                  refine (Holding_calls g A9 c9 l2 w8 hcell9 HC9.out HN9.out).mono ?_
                  rintro e w9 ⟨vh, rfl, ho9, hb9⟩
                  obtain ⟨Ah, ch, eh⟩ := Kd.R_slice ho9
                  subst eh
                  have hnz : (((sortI (idsK l2 (held l2) l2.length)).length : Int) == 0) = false := beq_eq_false_iff_ne.2 (by have := HL2.out.2.2; omega)
                  generalize (sortI (idsK l2 (held l2) l2.length)).length = n9 at hnz ⊢
                  have HS9 := Aside0.mk (HS8.out.below hb9)
                  have HB9 := Aside0.mk (HB8.out.trans (hb9.mono HS8.out.base_le))
                  clear ho9 hb9 hcell9
                  go_wp2_with fail
                  obtain ⟨A2, c2, hcell2, hrow2⟩ := HS9.out.tab.cell
                  refine (Holding_calls g A2 c2 l2 w9 hcell2 hrow2 (by have h1 := HL2.out.2.1; have h2 := HL.out.2.2; omega)).mono ?_
                  rintro e w10 ⟨vh2, rfl, ho10, hb10⟩
                  obtain ⟨Ah2, ch2, eh2⟩ := Kd.R_slice ho10
                  subst eh2
                  have HFR := Aside0.mk (free_step w.heap.size g S8 N l2 u4 m (sortI (idsK l2 (held l2) l2.length)) Ah2 ch2 w10 (HS9.out.below hb10) (Kd.R_reads' ho10).2.2 (fun ad0 he0 hs0 => by
                    have h1 := Kd.R_base ho10 ad0.block (by rw [he0]; cases ad0; simp [Value.ownBlock])
                    have h2 := HS9.out.ltS _ hs0
                    omega) (by have h1 := HL2.out.2.1; have h2 := HL.out.2.2; omega))
                  have HB10 := Aside0.mk (HB9.out.trans (hb10.mono HS9.out.base_le))
                  clear hcell2 hrow2 hb10 ho10
                  go_wp2_with fail
                  refine HFR.out.mono ?_
                  rintro e w11 ⟨rfl, ⟨S11, hs11⟩, hb11⟩
                  have HB11 := Aside0.mk (HB10.out.trans hb11)
                  have HS11 := Aside0.mk hs11
                  clear hb11 hs11 HFR
                  go_wp2_with fail
                  go_roundg k1
                  case measure => have := HK1.out; omega
                  case rel =>
                    have hgd := HL2.out.2.2
                    have hfr := Good.free (sortI (idsK l2 (held l2) l2.length)) HL2.out.1
                    have hls := free_less HL2.out.1 hgd
                    have hl2 := HL2.out.2.1
                    have hl3 := HL.out.2.2
                    exact ⟨i + 1, _, S11, by go_num, ⟨by have := HK1.out; omega⟩, by omega, ⟨hfr.1, fun j hj => free_held HL2.out.1 j hj, by omega⟩, HS11, HB11⟩
end Go.Proofs.Ytbpadimcnamdpaa.PK
