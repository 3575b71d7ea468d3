/- What the printed Frame comes to: the frame of all texts, one behind the other, or none. -/
import Derived.Test.YtlpjibmafpegeaaDoorPureOpen
import Derived.Test.YtlpjibmafpegeaaDoorFrameMath
namespace Go.Proofs.YtlpjibmafpegeaaDoor.PA
open Go.RowKit Go.Proofs.YtlpjibmafpegeaaDoorW.PrintWords Go.Proofs.YtlpjibmafpegeaaDoorW.PrintLast Go.Proofs.YtlpjibmafpegeaaDoorW.PrintMore
open Go.Proofs.YtlpjibmafpegeaaDoor.PR (wrap64_id wrap64_nat ends_at length_at)
theorem join_flat (xs : List (List UInt8)) : Lib.join xs [] = xs.flatten := by
  cases xs with
  | nil => rfl
  | cons x r => rw [Lib.join_cons]; simp [Lib.joinTail]
theorem join_joined (l : List ByteArray) : Lib.join (l.map (·.data.toList)) (⟨#[]⟩ : ByteArray).data.toList = Crc.joined l := by
  rw [show (⟨#[]⟩ : ByteArray).data.toList = [] from rfl, join_flat]
  unfold Crc.joined
  rw [List.flatMap_def]
theorem joined_cons (s : ByteArray) (l : List ByteArray) : Crc.joined (s :: l) = s.data.toList ++ Crc.joined l := by simp [Crc.joined]
theorem joined_snoc (l : List ByteArray) (s : ByteArray) : Crc.joined (l ++ [s]) = Crc.joined l ++ s.data.toList := by simp [Crc.joined]
theorem joined_one (s : ByteArray) : Crc.joined [s] = s.data.toList := by simp [Crc.joined]
theorem joined_append (l m : List ByteArray) : Crc.joined (l ++ m) = Crc.joined l ++ Crc.joined m := by simp [Crc.joined]
theorem rdOf_at (l : List ByteArray) (i : Nat) (h : i < l.length) : rdOf ByteArray.empty l (i : Int) = l[i] := by simp [rdOf, List.getD, h]
theorem joined_take (l : List ByteArray) (i : Nat) (h : i < l.length) : (Crc.joined (l.take (i + 1))).length = (Crc.joined (l.take i)).length + (l[i]).size := by
  rw [List.take_succ_eq_append_getElem h, joined_snoc, List.length_append, size_list]
theorem joined_take_le (l : List ByteArray) (i : Nat) : (Crc.joined (l.take i)).length ≤ (Crc.joined l).length := by
  conv => rhs; rw [← List.take_append_drop i l]
  rw [joined_append, List.length_append]
  omega
theorem frame_end (l : List ByteArray) (k : Nat) (hk : 9 ≤ k) (ht : (Crc.joined l).length ≤ 65536) (hl : l.length ≤ 140737488355328) :
    ((PR.seal_length.f ((Crc.joined l).length : Int)).bind fun t102 => ((strings_Join.f l (⟨#[]⟩ : ByteArray)).bind fun t103 => (if t102.size + t103.size ≤ 9223372036854775807 then ((seal_Of.f (([t102 ++ t103] : List ByteArray))).bind fun t107 => ((PR.seal_ends.f k t107 8).bind fun t108 => (if (t102 ++ t103).size + t108.size ≤ 9223372036854775807 then (some ((t102 ++ t103) ++ t108, true)) else (none)))) else (none)))) = some (Crc.mkB (Crc.frame (Crc.joined l)), true) := by
  have hj : strings_Join.f l (⟨#[]⟩ : ByteArray) = some (Crc.mkB (Crc.joined l)) := by
    unfold strings_Join.f
    rw [join_joined, if_pos ⟨by omega, hl⟩]
    rfl
  have hs1 : (Crc.mkB (Crc.be4 (Crc.joined l).length)).size = 4 := rfl
  have hs2 : (Crc.mkB (Crc.joined l)).size = (Crc.joined l).length := rfl
  rw [length_at, Option.bind_some, hj, Option.bind_some, if_pos (by omega), Crc.mkB_append, of_one _ (by rw [Crc.mkB_size, List.length_append, Crc.be4_length]; omega), Option.bind_some,
    at_rounds (fun k => PR.seal_ends.mono _ _ k) hk (ends_at _), Option.bind_some, if_pos (by rw [Crc.mkB_size, Crc.mkB_size, List.length_append, Crc.be4_length, Crc.le8_length]; omega), Crc.mkB_append]
  rfl
theorem frame_l0 (l : List ByteArray) (ht : (Crc.joined l).length ≤ 65536) (hl : l.length ≤ 140737488355328) (n : Nat) : ∀ i, i + n = l.length → ∀ k, n + 10 ≤ k →
    seal_Frame.l0 k l ((Crc.joined (l.take i)).length : Int) l (l.length : Int) (i : Int) = some (Crc.mkB (Crc.frame (Crc.joined l)), true) := by
  induction n with
  | zero =>
    intro i hi k hk
    obtain ⟨k, rfl⟩ : ∃ m, k = m + 1 := ⟨k - 1, by omega⟩
    simp only [seal_Frame.l0]
    rw [if_neg (by omega), List.take_of_length_le (by omega)]
    exact frame_end l k (by omega) ht hl
  | succ n ih =>
    intro i hi k hk
    obtain ⟨k, rfl⟩ : ∃ m, k = m + 1 := ⟨k - 1, by omega⟩
    have hlt : i < l.length := by omega
    have h1 := joined_take l i hlt
    have h2 := joined_take_le l (i + 1)
    simp only [seal_Frame.l0]
    rw [if_pos (by omega), if_pos (by omega), if_pos (by omega), rdOf_at l i hlt, wrap64_id (65536 - _) (by omega) (by omega), if_neg (by omega), wrap64_id _ (by omega) (by omega), wrap64_id _ (by omega) (by omega),
      show ((Crc.joined (l.take i)).length : Int) + ((l[i]).size : Int) = ((Crc.joined (l.take (i + 1))).length : Int) by omega, show (i : Int) + 1 = ((i + 1 : Nat) : Int) by omega]
    exact ih (i + 1) (by omega) k (by omega)
/-- Of at most 65536 bytes: their frame. -/
theorem frame_at (l : List ByteArray) (ht : (Crc.joined l).length ≤ 65536) (hl : l.length ≤ 140737488355328) (k : Nat) (hk : l.length + 10 ≤ k) : seal_Frame.f k l = some (Crc.mkB (Crc.frame (Crc.joined l)), true) := by
  unfold seal_Frame.f
  exact frame_l0 l ht hl l.length 0 (by omega) k hk
theorem frame_no_l0 (l : List ByteArray) (ht : 65536 < (Crc.joined l).length) (hl : l.length ≤ 140737488355328) (n : Nat) : ∀ i, i + n = l.length → (Crc.joined (l.take i)).length ≤ 65536 → ∀ k, n + 1 ≤ k →
    seal_Frame.l0 k l ((Crc.joined (l.take i)).length : Int) l (l.length : Int) (i : Int) = some (⟨#[]⟩, false) := by
  induction n with
  | zero =>
    intro i hi hle k _
    rw [List.take_of_length_le (by omega)] at hle
    omega
  | succ n ih =>
    intro i hi hle k hk
    obtain ⟨k, rfl⟩ : ∃ m, k = m + 1 := ⟨k - 1, by omega⟩
    have hlt : i < l.length := by omega
    have h1 := joined_take l i hlt
    simp only [seal_Frame.l0]
    rw [if_pos (by omega), if_pos (by omega), if_pos (by omega), rdOf_at l i hlt, wrap64_id (65536 - _) (by omega) (by omega)]
    by_cases hc : 65536 < (Crc.joined (l.take i)).length + (l[i]).size
    · rw [if_pos (by omega)]
    · rw [if_neg (by omega), wrap64_id _ (by omega) (by omega), wrap64_id _ (by omega) (by omega),
        show ((Crc.joined (l.take i)).length : Int) + ((l[i]).size : Int) = ((Crc.joined (l.take (i + 1))).length : Int) by omega, show (i : Int) + 1 = ((i + 1 : Nat) : Int) by omega]
      exact ih (i + 1) (by omega) (by omega) k (by omega)
/-- Of more there is none. -/
theorem frame_no (l : List ByteArray) (ht : 65536 < (Crc.joined l).length) (hl : l.length ≤ 140737488355328) (k : Nat) (hk : l.length + 1 ≤ k) : seal_Frame.f k l = some (⟨#[]⟩, false) := by
  unfold seal_Frame.f
  exact frame_no_l0 l ht hl l.length 0 (by omega) (by simp [Crc.joined]) k hk
end Go.Proofs.YtlpjibmafpegeaaDoor.PA
