/- lock: what the law's own functions come to. -/
import Derived.Test.YtbpadimcnamdpaaLkNames
import Derived.Test.YtbpadimcnamdpaaPKx3
namespace Go.Proofs.Ytbpadimcnamdpaa.PK
open Go.RowKit Go.Proofs.YtbpadimcnamdpaaW.PrintWords Go.Proofs.YtbpadimcnamdpaaW.PrintLast Go.Proofs.YtbpadimcnamdpaaW.PrintMore
abbrev Act_ := S26
theorem rd26_at (l : List Act_) (i : Nat) (h : i < l.length) : rd_T26 l (i : Int) = l[i] := by simp [rd_T26, List.getD, h]
theorem clash_one (x y : W) : Ev (fun k => affluxlaw22_clash.f k [x] [y]) (clash1 x y) := by
  refine ⟨10, fun k hk => ?_⟩
  obtain ⟨k, rfl⟩ : ∃ m, k = m + 1 := ⟨k - 1, by omega⟩
  obtain ⟨k, rfl⟩ : ∃ m, k = m + 1 := ⟨k - 1, by omega⟩
  obtain ⟨k, rfl⟩ : ∃ m, k = m + 1 := ⟨k - 1, by omega⟩
  obtain ⟨k, rfl⟩ : ∃ m, k = m + 1 := ⟨k - 1, by omega⟩
  have h0 : rd_T31 [x] 0 = x := rfl
  have h1 : rd_T31 [y] 0 = y := rfl
  have hl : ∀ z : W, ([z].length : Int) = 1 := fun z => rfl
  have hw : wrap64 (0 + 1) = 1 := by rw [w64i _ (by omega) (by omega)]; rfl
  unfold affluxlaw22_clash.f
  simp only [affluxlaw22_clash.l0, affluxlaw22_clash.l1, hl, h0, h1, hw]
  unfold clash1
  by_cases he : x.f0.toList = y.f0.toList
  · rw [decide_eq_true he]
    cases hx : x.f1 <;> cases hy : y.f1 <;> simp [he]
  · rw [decide_eq_false he]
    simp [he]
theorem great_go (l : List Act_) (hl : l.length ≤ 60) : ∀ (n i : Nat), i + n = l.length → ∃ r, Ev (fun k => affluxlaw22_great.l0 k l (i : Int)) r ∧ (r = false → ∀ j (hj : j < l.length), i ≤ j → l[j].f3.length ≤ 10 ∧ l[j].f2.length ≤ 10 ∧ ∀ x ∈ l[j].f3, x.f0.size ≤ 100) := by
  intro n
  induction n with
  | zero =>
    intro i hi
    refine ⟨false, ⟨1, fun k hk => ?_⟩, fun _ j hj hij => by omega⟩
    obtain ⟨m, rfl⟩ : ∃ m, k = m + 1 := ⟨k - 1, by omega⟩
    simp only [affluxlaw22_great.l0]
    rw [if_neg (by omega)]
  | succ n ih =>
    intro i hi
    have hil : i < l.length := by omega
    -- the names of one act
    have inner : ∀ (m j : Nat), j + m = l[i].f3.length → l[i].f3.length ≤ 1000 → ∃ r, Ev (fun k => affluxlaw22_great.l1 k l (i : Int) (j : Int)) r ∧ (r = false → (∀ q (hq : q < l[i].f3.length), j ≤ q → l[i].f3[q].f0.size ≤ 100) ∧ ∀ q (hq : q < l.length), i + 1 ≤ q → l[q].f3.length ≤ 10 ∧ l[q].f2.length ≤ 10 ∧ ∀ x ∈ l[q].f3, x.f0.size ≤ 100) := by
      intro m
      induction m with
      | zero =>
        intro j hj hsm
        obtain ⟨r, hev, hr⟩ := ih (i + 1) (by omega)
        refine ⟨r, ev_step (fun k => ?_) hev, fun h => ⟨fun q hq hjq => by omega, hr h⟩⟩
        simp only [affluxlaw22_great.l1]
        rw [if_pos (by omega), if_pos (by omega), rd26_at l i hil, if_neg (by omega), w64i _ (by omega) (by omega)]
        rfl
      | succ m ihm =>
        intro j hj hsm
        have hjl : j < l[i].f3.length := by omega
        by_cases hb : 100 < l[i].f3[j].f0.size
        · refine ⟨true, ⟨1, fun k hk => ?_⟩, fun h => by cases h⟩
          obtain ⟨k, rfl⟩ : ∃ m, k = m + 1 := ⟨k - 1, by omega⟩
          simp only [affluxlaw22_great.l1]
          rw [if_pos (by omega), if_pos (by omega), rd26_at l i hil, if_pos (by omega), if_pos (by omega), rd31_at _ j hjl, if_pos (by omega)]
        · obtain ⟨r, hev, hr⟩ := ihm (j + 1) (by omega) hsm
          refine ⟨r, ev_step (fun k => ?_) hev, fun h => ⟨fun q hq hjq => ?_, (hr h).2⟩⟩
          · simp only [affluxlaw22_great.l1]
            rw [if_pos (by omega), if_pos (by omega), rd26_at l i hil, if_pos (by omega), if_pos (by omega), rd31_at _ j hjl, if_neg (by omega), w64i _ (by omega) (by omega)]
            rfl
          · by_cases e : j = q
            · subst e; omega
            · exact (hr h).1 q hq (by omega)
    by_cases h3 : 10 < l[i].f3.length
    · refine ⟨true, ⟨2, fun k hk => ?_⟩, fun h => by cases h⟩
      obtain ⟨k, rfl⟩ : ∃ m, k = m + 1 := ⟨k - 1, by omega⟩
      obtain ⟨k, rfl⟩ : ∃ m, k = m + 1 := ⟨k - 1, by omega⟩
      simp only [affluxlaw22_great.l0]
      rw [if_pos (by omega), if_pos (by omega), rd26_at l i hil, if_pos (by omega)]
      simp only [affluxlaw22_great.j1, if_true]
    · by_cases h2 : 10 < l[i].f2.length
      · refine ⟨true, ⟨2, fun k hk => ?_⟩, fun h => by cases h⟩
        obtain ⟨k, rfl⟩ : ∃ m, k = m + 1 := ⟨k - 1, by omega⟩
        obtain ⟨k, rfl⟩ : ∃ m, k = m + 1 := ⟨k - 1, by omega⟩
        simp only [affluxlaw22_great.l0]
        rw [if_pos (by omega), if_pos (by omega), rd26_at l i hil, if_neg (by omega), decide_eq_true (by omega)]
        simp only [affluxlaw22_great.j1, if_true]
      · obtain ⟨r, hev, hr⟩ := inner l[i].f3.length 0 (by omega) (by omega)
        refine ⟨r, ev_step (h := fun k => affluxlaw22_great.j1 k l (i : Int) false) (fun k => ?_) (ev_step (fun k => ?_) hev), fun h j hj hij => ?_⟩
        · simp only [affluxlaw22_great.l0]
          rw [if_pos (by omega), if_pos (by omega), rd26_at l i hil, if_neg (by omega), decide_eq_false (by omega)]
        · simp only [affluxlaw22_great.j1, Bool.false_eq_true, if_false]
          rfl
        · by_cases e : i = j
          · subst e
            refine ⟨by omega, by omega, fun x hx => ?_⟩
            obtain ⟨q, hq, rfl⟩ := List.getElem_of_mem hx
            exact (hr h).1 q hq (Nat.zero_le _)
          · exact (hr h).2 j hj (by omega)
theorem great_at (l : List Act_) : ∃ r, Ev (fun k => affluxlaw22_great.f k l) r ∧ (r = false → l.length ≤ 60 ∧ ∀ j (hj : j < l.length), l[j].f3.length ≤ 10 ∧ l[j].f2.length ≤ 10 ∧ ∀ x ∈ l[j].f3, x.f0.size ≤ 100) := by
  by_cases h : 60 < l.length
  · refine ⟨true, ⟨0, fun k _ => ?_⟩, fun h => by cases h⟩
    unfold affluxlaw22_great.f
    dsimp only
    rw [if_pos (by omega)]
  · obtain ⟨r, hev, hr⟩ := great_go l (by omega) l.length 0 (by omega)
    refine ⟨r, ?_, fun hh => ⟨by omega, fun j hj => hr hh j hj (Nat.zero_le _)⟩⟩
    obtain ⟨K, hK⟩ := hev
    refine ⟨K, fun k hk => ?_⟩
    unfold affluxlaw22_great.f
    dsimp only
    rw [if_neg (by omega)]
    exact hK k hk
theorem wants_go (l : List W) (hl : l.length ≤ 1000) : ∀ (n i : Nat), i + n = l.length → Ev (fun k => affluxlaw22_wants.l0 k l l (i : Int)) true := by
  intro n
  induction n with
  | zero =>
    intro i hi
    refine ⟨1, fun k hk => ?_⟩
    obtain ⟨m, rfl⟩ : ∃ m, k = m + 1 := ⟨k - 1, by omega⟩
    simp only [affluxlaw22_wants.l0]
    rw [if_neg (by omega)]
  | succ n ih =>
    intro i hi
    refine ev_step (fun k => ?_) (ih (i + 1) (by omega))
    simp only [affluxlaw22_wants.l0]
    rw [if_pos (by omega), if_pos (by omega), if_pos (by omega), if_neg (by simp), w64i _ (by omega) (by omega)]
    rfl
theorem wants_at (l : List W) (hl : l.length ≤ 1000) : Ev (fun k => affluxlaw22_wants.f k l l) true := by
  obtain ⟨K, hK⟩ := wants_go l hl l.length 0 (by omega)
  refine ⟨K, fun k hk => ?_⟩
  unfold affluxlaw22_wants.f
  dsimp only
  rw [if_pos rfl]
  exact hK k hk
end Go.Proofs.Ytbpadimcnamdpaa.PK
