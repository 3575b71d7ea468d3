/- Frames there and back: what was framed is opened; a frame's beginning is short. -/
import Derived.Test.YtlpjibmafpegeaaDoorFrame
namespace Go.Proofs.YtlpjibmafpegeaaDoor.Crc
theorem tell_frame (d r : List UInt8) (h : d.length ≤ 65536) : tell (frame d ++ r) = d.length := by
  unfold frame head4
  rw [List.append_assoc, List.append_assoc]
  exact tell_be4 _ (by omega) _
theorem take_frame (d r : List UInt8) : (frame d ++ r).take (d.length + 12) = frame d := by
  rw [List.take_append_of_le_length (by rw [frame_length]; omega), List.take_of_length_le (by rw [frame_length]; omega)]
theorem mid_frame (d r : List UInt8) : ((frame d ++ r).drop 4).take d.length = d := by
  unfold frame head4
  rw [List.append_assoc, List.append_assoc, List.drop_append_of_le_length (by simp [be4_length]), List.drop_of_length_le (by simp [be4_length]), List.nil_append, List.take_append_of_le_length (Nat.le_refl _), List.take_of_length_le (Nat.le_refl _)]
theorem open_frame (d r : List UInt8) (h : d.length ≤ 65536) : openL (frame d ++ r) = (d, d.length + 12, 0) := by
  have ht := tell_frame d r h
  have hl : (frame d ++ r).length = d.length + 12 + r.length := by rw [List.length_append, frame_length]
  rw [openL_good _ (by omega) (by omega) (by rw [ht, mid_frame, take_frame]), ht, mid_frame]
/-- A beginning of a frame is short. -/
theorem open_cut (d r : List UInt8) (h : d.length ≤ 65536) (k : Nat) (hk : k < d.length + 12) : openL ((frame d ++ r).take k) = ([], 0, 1) := by
  have hlen : ((frame d ++ r).take k).length = k := by rw [List.length_take, List.length_append, frame_length]; omega
  by_cases h4 : k < 4
  · exact openL_short _ (by omega)
  · have ht : tell ((frame d ++ r).take k) = d.length := by
      have e : (frame d ++ r).take k = be4 d.length ++ ((frame d ++ r).take k).drop 4 := by
        conv => lhs; rw [← List.take_append_drop 4 ((frame d ++ r).take k)]
        rw [List.take_take, Nat.min_eq_left (by omega)]
        congr 1
      rw [e]
      exact tell_be4 _ (by omega) _
    exact openL_cut _ (by omega) (by omega) (by omega)
/-- Texts in frames, one behind the other. -/
def framesL (l : List (List UInt8)) : List UInt8 := l.flatMap frame
theorem framesL_cons (d : List UInt8) (l : List (List UInt8)) : framesL (d :: l) = frame d ++ framesL l := by simp [framesL]
theorem framesL_snoc (l : List (List UInt8)) (d : List UInt8) : framesL (l ++ [d]) = framesL l ++ frame d := by simp [framesL]
theorem frame_ne (d r : List UInt8) : frame d ++ r ≠ [] := fun e => by
  have := congrArg List.length e
  rw [List.length_append, frame_length] at this
  simp at this
theorem all_frames (l : List (List UInt8)) (h : ∀ d ∈ l, d.length ≤ 65536) : allL (framesL l) = (l, (framesL l).length, 0) := by
  induction l with
  | nil => rfl
  | cons d l ih =>
    have ho := open_frame d (framesL l) (h d List.mem_cons_self)
    rw [framesL_cons, allL_step _ (frame_ne _ _) (by rw [ho]), ho]
    dsimp only
    have hd : (frame d ++ framesL l).drop (d.length + 12) = framesL l := by
      rw [List.drop_append_of_le_length (by rw [frame_length]; omega), List.drop_of_length_le (by rw [frame_length]; omega), List.nil_append]
    rw [hd, ih (fun x hx => h x (List.mem_cons_of_mem _ hx)), List.length_append, frame_length]
/-- Cut off anywhere: all ahead are told, and the next one is short. -/
theorem all_cut (l : List (List UInt8)) (h : ∀ d ∈ l, d.length ≤ 65536) : ∀ k, k ≤ (framesL l).length → ∃ m to cut, m ≤ l.length ∧ to ≤ k ∧ (to = k ↔ cut = 0) ∧ cut ≤ 1 ∧ allL ((framesL l).take k) = (l.take m, to, cut) := by
  induction l with
  | nil => intro k hk; exact ⟨0, 0, 0, Nat.le_refl _, Nat.zero_le _, by simp [framesL] at hk; simp [hk], by omega, by simp [framesL, allL_nil]⟩
  | cons d l ih =>
    intro k hk
    have hd := h d List.mem_cons_self
    rw [framesL_cons] at hk ⊢
    rw [List.length_append, frame_length] at hk
    by_cases h0 : k = 0
    · subst h0
      exact ⟨0, 0, 0, by omega, by omega, by simp, by omega, by simp [allL_nil]⟩
    by_cases hlt : k < d.length + 12
    · have ho := open_cut d (framesL l) hd k hlt
      have hne : (frame d ++ framesL l).take k ≠ [] := fun e => by
        have := congrArg List.length e
        rw [List.length_take, List.length_append, frame_length] at this
        simp at this; omega
      exact ⟨0, 0, 1, by omega, by omega, by omega, by omega, by rw [allL_end _ hne (by rw [ho]; decide), ho]; rfl⟩
    · obtain ⟨m, to, cut, h1, h2, h3, h4, h5⟩ := ih (fun x hx => h x (List.mem_cons_of_mem _ hx)) (k - (d.length + 12)) (by omega)
      have e : (frame d ++ framesL l).take k = frame d ++ (framesL l).take (k - (d.length + 12)) := by
        rw [List.take_append, frame_length, List.take_of_length_le (by rw [frame_length]; omega)]
      have ho := open_frame d ((framesL l).take (k - (d.length + 12))) hd
      have hdr : (frame d ++ (framesL l).take (k - (d.length + 12))).drop (d.length + 12) = (framesL l).take (k - (d.length + 12)) := by
        rw [List.drop_append_of_le_length (by rw [frame_length]; omega), List.drop_of_length_le (by rw [frame_length]; omega), List.nil_append]
      refine ⟨m + 1, d.length + 12 + to, cut, by simp; omega, by omega, by omega, h4, ?_⟩
      rw [e, allL_step _ (frame_ne _ _) (by rw [ho]), ho]
      dsimp only
      rw [hdr, h5]
      rfl
end Go.Proofs.YtlpjibmafpegeaaDoor.Crc
