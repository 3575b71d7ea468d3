/- What the reference's Sum and Eight, and the program's length and ends, come to: the register's words, bytes by place. -/
import Derived.Test.YtcbbdkennmopdaaGreatDoorTCrcMath
import Derived.Test.YtcbbdkennmopdaaGreatDoorTFrame
import Derived.Test.YtcbbdkennmopdaaGreatDoorTPRx1
namespace Go.Proofs.YtcbbdkennmopdaaGreatDoor.PR
open Go.RowKit Go.Proofs.YtcbbdkennmopdaaGreatDoorW.PrintWords Go.Proofs.YtcbbdkennmopdaaGreatDoorW.PrintLast Go.Proofs.YtcbbdkennmopdaaGreatDoorW.PrintMore
theorem wrap64_nat (n : Nat) (h : n < 9223372036854775808) : wrap64 (n : Int) = (n : Int) := by unfold wrap64; omega
theorem wrap64_id (n : Int) (h0 : -9223372036854775808 ≤ n) (h : n < 9223372036854775808) : wrap64 n = n := by unfold wrap64; omega
theorem wrapU_id (n : Int) (h0 : 0 ≤ n) (h : n < 18446744073709551616) : IntKind.u64.wrap n = n := by
  simp [IntKind.wrap, IntKind.bits, IntKind.signed]; omega
theorem ofInt_bv (a : BitVec 64) : BitVec.ofInt 64 (Crc.bv a) = a := by simp [Crc.bv]
theorem xor_bv (a b : BitVec 64) : Go.bits .xor .u64 (Crc.bv a) (Crc.bv b) = Crc.bv (a ^^^ b) := by
  show IntKind.u64.wrap (((BitVec.ofInt 64 (Crc.bv a)) ^^^ (BitVec.ofInt 64 (Crc.bv b))).toNat : Int) = _
  rw [ofInt_bv, ofInt_bv]
  exact wrapU_id _ (by omega) (by have := (a ^^^ b).isLt; omega)
theorem poly_bv : (14514072000185962306 : Int) = Crc.bv Crc.poly := by decide
theorem ones_bv : (18446744073709551615 : Int) = Crc.bv (~~~ 0#64) := by decide
theorem not_bv (r : BitVec 64) : IntKind.u64.wrap (18446744073709551615 - Crc.bv r) = Crc.bv (~~~ r) := by
  have := r.isLt
  rw [wrapU_id _ (by unfold Crc.bv; omega) (by unfold Crc.bv; omega)]
  unfold Crc.bv
  rw [BitVec.toNat_not]; omega
theorem half_bv (r : BitVec 64) : IntKind.u64.wrap (Int.tdiv (Crc.bv r) 2) = Crc.bv (r >>> 1) := by
  have := r.isLt
  have h0 := (Crc.bv_range r).1
  have h1 := (Crc.bv_range r).2
  rw [Int.tdiv_eq_ediv_of_nonneg h0, wrapU_id _ (by omega) (by omega)]
  unfold Crc.bv
  rw [BitVec.toNat_ushiftRight, Nat.shiftRight_eq_div_pow]; omega
theorem lsb_mod (r : BitVec 64) : r.getLsbD 0 = decide (r.toNat % 2 = 1) := by
  rw [BitVec.getLsbD, Nat.testBit_zero]
theorem step_eq (r : BitVec 64) (b : UInt8) (j : Nat) : Crc.one (r ^^^ Crc.bit b j) = if r.toNat % 2 = b.toNat / 2 ^ j % 2 then r >>> 1 else (r >>> 1) ^^^ Crc.poly := by
  unfold Crc.one Crc.bit
  have hs : ∀ x : BitVec 64, (x ^^^ 1#64) >>> 1 = x >>> 1 := fun x => by
    rw [BitVec.ushiftRight_xor_distrib]; simp
  have hx : (r ^^^ 1#64).getLsbD 0 = !(decide (r.toNat % 2 = 1)) := by
    rw [BitVec.getLsbD_xor, lsb_mod, show (1#64).getLsbD 0 = true by decide, Bool.xor_true]
  rcases Nat.mod_two_eq_zero_or_one (b.toNat / 2 ^ j) with hb | hb <;> rcases Nat.mod_two_eq_zero_or_one r.toNat with hr | hr
  · rw [hb, hr]; simp only [Nat.zero_ne_one, ↓reduceIte, BitVec.xor_zero, lsb_mod, hr, decide_false, Bool.false_eq_true]
  · rw [hb, hr]; simp only [Nat.zero_ne_one, Nat.one_ne_zero, ↓reduceIte, BitVec.xor_zero, lsb_mod, hr, decide_true]
  · rw [hb, hr, if_pos rfl, hx, hr, hs]; simp
  · rw [hb, hr, if_pos rfl, hx, hr, hs]; simp
theorem cond_iff (r : BitVec 64) (b : UInt8) (j : Nat) (hj : j < 8) : (Int.tmod (Crc.bv r) 2 = IntKind.u64.wrap (Int.tmod (shr .u8 (b.toNat : Int) (j : Int)) 2)) ↔ r.toNat % 2 = b.toNat / 2 ^ j % 2 := by
  have h0 := (Crc.bv_range r).1
  have hp : shr .u8 (b.toNat : Int) (j : Int) = ((b.toNat / 2 ^ j : Nat) : Int) := by
    unfold shr
    rw [show min ((j : Int).toNat) IntKind.u8.bits = j by simp [IntKind.bits]; omega]
    norm_cast
  rw [hp]
  generalize b.toNat / 2 ^ j = q
  rw [Int.tmod_eq_emod_of_nonneg h0, Int.tmod_eq_emod_of_nonneg (Int.natCast_nonneg q), wrapU_id _ (by omega) (by omega)]
  unfold Crc.bv
  omega
theorem bt_nat (s : ByteArray) (i : Nat) (h : i < s.size) : bt s (i : Int) = ((s[i]'h).toNat : Int) := (bt_at s (i : Int) (by simpa using h)).symm
theorem sum_l1 (s : ByteArray) (hs : s.size ≤ 9223372036854775806) (i : Nat) (hi : i < s.size) (n : Nat) : ∀ (j : Nat) (r : BitVec 64) (k : Nat), j + n = 8 →
    affluxref05_Sum.l1 (k + n + 1) s (Crc.bv r) (i : Int) (j : Int) = affluxref05_Sum.l0 k s (Crc.bv (Crc.bits8 (s[i]'hi) n j r)) ((i + 1 : Nat) : Int) := by
  induction n with
  | zero =>
    intro j r k hj
    simp only [affluxref05_Sum.l1]
    rw [if_neg (by omega), wrap64_id _ (by omega) (by omega)]
    rfl
  | succ n ih =>
    intro j r k hj
    rw [show k + (n + 1) + 1 = (k + n + 1) + 1 from rfl]
    conv => lhs; unfold affluxref05_Sum.l1
    rw [if_pos (by omega), if_pos (by omega), if_pos (by omega), if_pos (by omega), bt_nat s i hi, wrap64_id _ (by omega) (by omega), half_bv, poly_bv, xor_bv]
    have hnx : ((j : Int) + 1) = ((j + 1 : Nat) : Int) := by omega
    simp only [cond_iff r (s[i]'hi) j (by omega), hnx]
    rw [ih (j + 1) _ _ (by omega), ih (j + 1) _ _ (by omega)]
    simp only [Crc.bits8, step_eq]
    by_cases hc : r.toNat % 2 = (s[i]'hi).toNat / 2 ^ j % 2
    · rw [if_pos hc, if_pos hc]
    · rw [if_neg hc, if_neg hc]
theorem drop_at (s : ByteArray) (i : Nat) (hi : i < s.size) : s.data.toList.drop i = (s[i]'hi) :: s.data.toList.drop (i + 1) := by
  rw [List.drop_eq_getElem_cons (by simpa using hi)]; rfl
theorem sum_l0 (s : ByteArray) (hs : s.size ≤ 9223372036854775806) (m : Nat) : ∀ (i : Nat) (r : BitVec 64), i + m = s.size →
    affluxref05_Sum.l0 (10 * m + 1) s (Crc.bv r) (i : Int) = some (Crc.bv (~~~ Crc.bytes r (s.data.toList.drop i))) := by
  induction m with
  | zero =>
    intro i r hi
    simp only [affluxref05_Sum.l0]
    rw [if_neg (by omega), not_bv, List.drop_eq_nil_of_le (by have : s.data.toList.length = s.size := rfl; omega)]
    rfl
  | succ m ih =>
    intro i r hi
    rw [show 10 * (m + 1) + 1 = ((10 * m + 1) + 8 + 1) + 1 by omega]
    conv => lhs; unfold affluxref05_Sum.l0
    rw [if_pos (by omega), show (0 : Int) = ((0 : Nat) : Int) from rfl, sum_l1 s hs i (by omega) 8 0 r (10 * m + 1) rfl, Crc.bits8_all, ih (i + 1) _ (by omega), drop_at s i (by omega)]
    rfl
/-- The reference's sum. -/
theorem sum_at (s : ByteArray) (hs : s.size ≤ 9223372036854775806) : affluxref05_Sum.f (10 * s.size + 1) s = some (Crc.bv (~~~ Crc.bytes (~~~ 0#64) s.data.toList)) := by
  unfold affluxref05_Sum.f
  rw [ones_bv, show (0 : Int) = ((0 : Nat) : Int) from rfl, sum_l0 s hs s.size 0 _ (by omega)]
  rfl
theorem sum_list (s : ByteArray) (hs : s.size ≤ 9223372036854775806) : affluxref05_Sum.f (10 * s.size + 1) s = some (Crc.bv (Crc.sumL s.data.toList)) := sum_at s hs
theorem div_bv (x : Int) (h0 : 0 ≤ x) (h1 : x < 18446744073709551616) : IntKind.u64.wrap (Int.tdiv x 256) = x / 256 := by
  rw [Int.tdiv_eq_ediv_of_nonneg h0, wrapU_id _ (by omega) (by omega)]
theorem eight_l0 (n : Nat) : ∀ (j : Nat) (x : Int) (acc : List Int), 0 ≤ x → x < 18446744073709551616 → j + n = 8 → acc.length ≤ 8 - n →
    affluxref05_Eight.l0 (n + 1) x acc (j : Int) = some (strOfNums (acc ++ (List.range n).map fun i => x / 256 ^ i % 256)) := by
  induction n with
  | zero =>
    intro j x acc h0 h1 hj hl
    simp only [affluxref05_Eight.l0]
    rw [if_neg (by omega)]
    simp
  | succ n ih =>
    intro j x acc h0 h1 hj hl
    conv => lhs; unfold affluxref05_Eight.l0
    rw [if_pos (by omega), if_pos (by omega), div_bv x h0 h1, wrap64_id _ (by omega) (by omega), show ((j : Int) + 1) = ((j + 1 : Nat) : Int) by omega, ih (j + 1) (x / 256) _ (by omega) (by omega) (by omega) (by simp; omega)]
    congr 2
    rw [Int.tmod_eq_emod_of_nonneg h0, List.range_succ_eq_map]
    simp only [List.append_assoc, List.singleton_append, List.map_cons, List.map_map]
    congr 1
    congr 1
    · rw [Int.pow_zero, Int.ediv_one]; omega
    · apply List.map_congr_left
      intro i _
      show x / 256 / 256 ^ i % 256 = x / 256 ^ (i + 1) % 256
      rw [Int.pow_succ, Int.mul_comm, Int.ediv_ediv_of_nonneg (by omega)]
theorem le8_nums (r : BitVec 64) : strOfNums ((List.range 8).map fun i => Crc.bv r / 256 ^ i % 256) = Crc.mkB (Crc.le8 r) := by
  unfold strOfNums Crc.mkB Crc.le8
  rw [List.map_map]
  rfl
/-- The reference's eight bytes. -/
theorem eight_at (r : BitVec 64) : affluxref05_Eight.f 9 (Crc.bv r) = some (Crc.mkB (Crc.le8 r)) := by
  unfold affluxref05_Eight.f
  rw [show (0 : Int) = ((0 : Nat) : Int) from rfl, eight_l0 8 0 _ [] (Crc.bv_range r).1 (Crc.bv_range r).2 rfl (by simp), List.nil_append, le8_nums]
/-- The program's four bytes. -/
theorem length_at (n : Nat) : seal_length.f (n : Int) = some (Crc.mkB (Crc.be4 n)) := by
  unfold seal_length.f strOfNums Crc.mkB Crc.be4
  simp only [List.map_cons, List.map_nil]
  congr 6 <;> norm_cast
theorem ends_l0 (x : Int) (n : Nat) : ∀ (j : Nat) (acc : List Int), j + n = 8 → acc.length = 8 →
    seal_ends.l0 (n + 1) x acc 8 (j : Int) = some (strOfNums (acc.take j ++ ((List.range' j n).map fun i => x / 256 ^ i % 256))) := by
  induction n with
  | zero =>
    intro j acc hj hl
    simp only [seal_ends.l0]
    rw [if_neg (by omega), List.take_of_length_le (by omega)]
    simp
  | succ n ih =>
    intro j acc hj hl
    conv => lhs; unfold seal_ends.l0
    rw [if_pos (by omega), wrap64_id _ (by omega) (by omega), if_pos (by omega), if_pos (by omega), if_pos (by omega), wrap64_id _ (by omega) (by omega), show ((j : Int) + 1) = ((j + 1 : Nat) : Int) by omega, ih (j + 1) _ (by omega) (by simpa using hl)]
    have hsh : shr .u64 x (8 * (j : Int)) = x / 256 ^ j := by
      unfold shr
      rw [show min ((8 * (j : Int)).toNat) IntKind.u64.bits = 8 * j by simp [IntKind.bits]; omega, Int.pow_mul]
      rfl
    rw [hsh, Int.toNat_natCast, List.range'_succ]
    congr 2
    rw [List.take_succ_eq_append_getElem (by simp; omega), List.take_set_of_le (by omega)]
    simp
/-- The program's eight bytes. -/
theorem ends_at (r : BitVec 64) : seal_ends.f 9 (Crc.bv r) 8 = some (Crc.mkB (Crc.le8 r)) := by
  unfold seal_ends.f
  rw [if_pos (by decide), if_pos (by decide), Option.bind_some]
  have := ends_l0 (Crc.bv r) 8 0 (List.replicate (8 : Int).toNat 0) rfl (by simp)
  rw [List.length_replicate]
  rw [show ((((8 : Int).toNat : Nat) : Int)) = 8 from rfl]
  rw [show (0 : Int) = ((0 : Nat) : Int) from rfl] at *
  rw [this, List.take_zero, List.nil_append, ← le8_nums]
  rfl
end Go.Proofs.YtcbbdkennmopdaaGreatDoor.PR
