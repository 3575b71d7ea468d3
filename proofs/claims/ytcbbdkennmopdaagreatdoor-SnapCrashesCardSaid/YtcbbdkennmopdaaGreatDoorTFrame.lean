/- Frames as lists of bytes: plain words, no program in sight. -/
import Derived.Test.YtcbbdkennmopdaaGreatDoorTCrc
namespace Go.Proofs.YtcbbdkennmopdaaGreatDoor.Crc
/-- A sum as eight bytes, the lowest first. -/
def le8 (r : BitVec 64) : List UInt8 := (List.range 8).map fun i => UInt8.ofNat (r.toNat / 256 ^ i % 256)
/-- A number as four bytes, the highest first. -/
def be4 (n : Nat) : List UInt8 := [UInt8.ofNat (n / 16777216 % 256), UInt8.ofNat (n / 65536 % 256), UInt8.ofNat (n / 256 % 256), UInt8.ofNat (n % 256)]
def sumL (l : List UInt8) : BitVec 64 := ~~~ bytes (~~~ 0#64) l
/-- Bytes with their length ahead. -/
def head4 (d : List UInt8) : List UInt8 := be4 d.length ++ d
def frame (d : List UInt8) : List UInt8 := head4 d ++ le8 (sumL (head4 d))
/-- Bytes as a text. -/
def mkB (l : List UInt8) : ByteArray := ⟨l.toArray⟩
theorem mkB_list (l : List UInt8) : (mkB l).data.toList = l := rfl
theorem mkB_size (l : List UInt8) : (mkB l).size = l.length := rfl
theorem mkB_data (s : ByteArray) : mkB s.data.toList = s := rfl
theorem mkB_append (l m : List UInt8) : mkB l ++ mkB m = mkB (l ++ m) := by
  apply ByteArray.ext
  simp [mkB]
theorem append_mkB (s t : ByteArray) : s ++ t = mkB (s.data.toList ++ t.data.toList) := by rw [← mkB_append]; rfl
theorem le8_length (r : BitVec 64) : (le8 r).length = 8 := rfl
theorem be4_length (n : Nat) : (be4 n).length = 4 := rfl
theorem head4_length (d : List UInt8) : (head4 d).length = d.length + 4 := by simp [head4, be4_length]; omega
theorem frame_length (d : List UInt8) : (frame d).length = d.length + 12 := by simp [frame, head4_length, le8_length]
/-- What four bytes tell. -/
def tell (l : List UInt8) : Nat := 16777216 * (l.getD 0 0).toNat + 65536 * (l.getD 1 0).toNat + 256 * (l.getD 2 0).toNat + (l.getD 3 0).toNat
/-- What is framed at the beginning. -/
def openL (l : List UInt8) : List UInt8 × Nat × Nat :=
  if l.length < 4 then ([], 0, 1)
  else if 65536 < tell l then ([], 0, 2)
  else if l.length < tell l + 12 then ([], 0, 1)
  else if frame ((l.drop 4).take (tell l)) = l.take (tell l + 12) then ((l.drop 4).take (tell l), tell l + 12, 0) else ([], 0, 2)
/-- What is framed, one behind the other: k: rounds. -/
def allK : Nat → List UInt8 → List (List UInt8) × Nat × Nat
  | 0, _ => ([], 0, 0)
  | k + 1, l => if l = [] then ([], 0, 0) else if (openL l).2.2 = 0 then ((openL l).1 :: (allK k (l.drop (openL l).2.1)).1, (openL l).2.1 + (allK k (l.drop (openL l).2.1)).2.1, (allK k (l.drop (openL l).2.1)).2.2) else ([], 0, (openL l).2.2)
def allL (l : List UInt8) : List (List UInt8) × Nat × Nat := allK l.length l
theorem tell_be4 (n : Nat) (h : n < 4294967296) (l : List UInt8) : tell (be4 n ++ l) = n := by
  unfold tell be4
  simp only [List.cons_append, List.nil_append, List.getD_cons_zero, List.getD_cons_succ, UInt8.toNat_ofNat']
  omega
theorem be4_tell (l : List UInt8) (h : 4 ≤ l.length) : be4 (tell l) = l.take 4 := by
  match l, h with
  | a :: b :: c :: d :: r, _ =>
    have ha := a.toNat_lt
    have hb := b.toNat_lt
    have hc := c.toNat_lt
    have hd := d.toNat_lt
    unfold tell be4
    simp only [List.getD_cons_zero, List.getD_cons_succ, List.take_succ_cons, List.take_zero]
    congr
    · rw [show (16777216 * a.toNat + 65536 * b.toNat + 256 * c.toNat + d.toNat) / 16777216 % 256 = a.toNat by omega]; simp
    · rw [show (16777216 * a.toNat + 65536 * b.toNat + 256 * c.toNat + d.toNat) / 65536 % 256 = b.toNat by omega]; simp
    · rw [show (16777216 * a.toNat + 65536 * b.toNat + 256 * c.toNat + d.toNat) / 256 % 256 = c.toNat by omega]; simp
    · rw [show (16777216 * a.toNat + 65536 * b.toNat + 256 * c.toNat + d.toNat) % 256 = d.toNat by omega]; simp
/-- The frame of what lies behind four bytes, held against what lies there: the sums alone count. -/
theorem frame_iff (l : List UInt8) (h4 : 4 ≤ l.length) (hn : tell l + 12 ≤ l.length) : frame ((l.drop 4).take (tell l)) = l.take (tell l + 12) ↔ le8 (sumL (l.take (4 + tell l))) = (l.take (tell l + 12)).drop (4 + tell l) := by
  have hlen : ((l.drop 4).take (tell l)).length = tell l := by simp; omega
  have hh : head4 ((l.drop 4).take (tell l)) = l.take (4 + tell l) := by
    unfold head4
    rw [hlen, be4_tell l h4, List.take_add]
  unfold frame
  rw [hh]
  have e : l.take (tell l + 12) = l.take (4 + tell l) ++ (l.take (tell l + 12)).drop (4 + tell l) := by
    conv => lhs; rw [← List.take_append_drop (4 + tell l) (l.take (tell l + 12))]
    rw [List.take_take, Nat.min_eq_left (by omega)]
  conv => lhs; rhs; rw [e]
  exact List.append_right_inj _
theorem openL_short (l : List UInt8) (h : l.length < 4) : openL l = ([], 0, 1) := by unfold openL; rw [if_pos h]
theorem openL_big (l : List UInt8) (h4 : 4 ≤ l.length) (h : 65536 < tell l) : openL l = ([], 0, 2) := by
  unfold openL; rw [if_neg (by omega), if_pos h]
theorem openL_cut (l : List UInt8) (h4 : 4 ≤ l.length) (h : tell l ≤ 65536) (h3 : l.length < tell l + 12) : openL l = ([], 0, 1) := by
  unfold openL; rw [if_neg (by omega), if_neg (by omega), if_pos h3]
theorem openL_bad (l : List UInt8) (h : tell l ≤ 65536) (h3 : tell l + 12 ≤ l.length) (hf : ¬ frame ((l.drop 4).take (tell l)) = l.take (tell l + 12)) : openL l = ([], 0, 2) := by
  unfold openL; rw [if_neg (by omega), if_neg (by omega), if_neg (by omega), if_neg hf]
theorem openL_good (l : List UInt8) (h : tell l ≤ 65536) (h3 : tell l + 12 ≤ l.length) (hf : frame ((l.drop 4).take (tell l)) = l.take (tell l + 12)) : openL l = ((l.drop 4).take (tell l), tell l + 12, 0) := by
  unfold openL; rw [if_neg (by omega), if_neg (by omega), if_neg (by omega), if_pos hf]
theorem openL_le (l : List UInt8) : (openL l).2.1 ≤ l.length := by
  unfold openL
  split
  · simp
  · split
    · simp
    · split
      · simp
      · split
        · simp; omega
        · simp
theorem openL_pos (l : List UInt8) (h : (openL l).2.2 = 0) : 12 ≤ (openL l).2.1 := by
  unfold openL at h ⊢
  split
  · rename_i h1; rw [if_pos h1] at h; simp at h
  · rename_i h1; rw [if_neg h1] at h
    split
    · rename_i h2; rw [if_pos h2] at h; simp at h
    · rename_i h2; rw [if_neg h2] at h
      split
      · rename_i h3; rw [if_pos h3] at h; simp at h
      · rename_i h3; rw [if_neg h3] at h
        split
        · simp
        · rename_i h4; rw [if_neg h4] at h; simp at h
/-- More rounds than there are bytes tell no more. -/
theorem allK_more (k : Nat) : ∀ l : List UInt8, l.length ≤ k → allK k l = allL l := by
  induction k using Nat.strongRecOn with
  | _ k ih =>
    intro l hl
    unfold allL
    cases k with
    | zero =>
      have : l.length = 0 := by omega
      rw [this]
    | succ k =>
      cases hll : l.length with
      | zero =>
        obtain rfl := List.eq_nil_of_length_eq_zero hll
        simp [allK]
      | succ m =>
        have hne : l ≠ [] := fun e => by rw [e] at hll; simp at hll
        simp only [allK]
        rw [if_neg hne, if_neg hne]
        by_cases ho : (openL l).2.2 = 0
        · rw [if_pos ho, if_pos ho]
          have hp := openL_pos l ho
          have hd : (l.drop (openL l).2.1).length ≤ k := by simp; omega
          have hd2 : (l.drop (openL l).2.1).length ≤ m := by simp; omega
          rw [ih k (by omega) _ hd, ih m (by omega) _ hd2]
        · rw [if_neg ho, if_neg ho]
theorem allL_nil : allL [] = ([], 0, 0) := rfl
theorem allL_step (l : List UInt8) (hne : l ≠ []) (h : (openL l).2.2 = 0) : allL l = ((openL l).1 :: (allL (l.drop (openL l).2.1)).1, (openL l).2.1 + (allL (l.drop (openL l).2.1)).2.1, (allL (l.drop (openL l).2.1)).2.2) := by
  have hp := openL_pos l h
  have hl : 0 < l.length := List.length_pos_iff.2 hne
  rw [← allK_more (l.length - 1 + 1) l (by omega)]
  simp only [allK]
  rw [if_neg hne, if_pos h, allK_more (l.length - 1) _ (by simp; omega)]
theorem allL_end (l : List UInt8) (hne : l ≠ []) (h : (openL l).2.2 ≠ 0) : allL l = ([], 0, (openL l).2.2) := by
  have hl : 0 < l.length := List.length_pos_iff.2 hne
  rw [← allK_more (l.length - 1 + 1) l (by omega)]
  simp only [allK]
  rw [if_neg hne, if_neg h]
end Go.Proofs.YtcbbdkennmopdaaGreatDoor.Crc
