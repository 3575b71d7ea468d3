/- Bit by bit is the same as by nibbles: the register's step of one bit, its laws, and the two sums. -/
import Derived.Test.YtcbbdkennmopdaaGreatDoorTCrc
namespace Go.Proofs.YtcbbdkennmopdaaGreatDoor.Crc
/-- What a 1 that falls out adds. -/
def poly : BitVec 64 := 0xc96c5795d7870f42#64
/-- One bit. -/
def one (r : BitVec 64) : BitVec 64 := (r >>> 1) ^^^ (if r.getLsbD 0 then poly else 0#64)
theorem one_xor (a b : BitVec 64) : one (a ^^^ b) = one a ^^^ one b := by
  unfold one
  rw [BitVec.ushiftRight_xor_distrib, BitVec.getLsbD_xor]
  generalize a >>> 1 = x
  generalize b >>> 1 = y
  cases a.getLsbD 0 <;> cases b.getLsbD 0 <;> simp only [Bool.false_eq_true, ↓reduceIte, BitVec.xor_zero, Bool.xor_false, Bool.xor_true, Bool.not_false, Bool.not_true, BitVec.xor_assoc]
  · rw [BitVec.xor_comm poly y]
  · rw [BitVec.xor_comm y poly, ← BitVec.xor_assoc poly poly y]; simp
theorem one_even (a : BitVec 64) (h : a.getLsbD 0 = false) : one a = a >>> 1 := by unfold one; rw [h]; simp
def ones : Nat → BitVec 64 → BitVec 64
  | 0, r => r
  | n + 1, r => ones n (one r)
theorem ones_xor (n : Nat) : ∀ a b : BitVec 64, ones n (a ^^^ b) = ones n a ^^^ ones n b := by
  induction n with
  | zero => intro a b; rfl
  | succ n ih => intro a b; simp only [ones, one_xor, ih]
theorem ones_add (m n : Nat) : ∀ r : BitVec 64, ones (m + n) r = ones n (ones m r) := by
  induction m with
  | zero => intro r; simp [ones]
  | succ m ih => intro r; rw [Nat.succ_add]; simp only [ones]; exact ih _
/-- Where the lowest n bits are none, nothing falls out. -/
theorem ones_even (n : Nat) : ∀ a : BitVec 64, (∀ i, i < n → a.getLsbD i = false) → ones n a = a >>> n := by
  induction n with
  | zero => intro a _; simp [ones]
  | succ n ih =>
    intro a h
    simp only [ones]
    rw [one_even a (h 0 (by omega)), ih _ (fun i hi => by rw [BitVec.getLsbD_ushiftRight]; exact h _ (by omega)), ← BitVec.shiftRight_add, Nat.add_comm 1 n]
theorem parts (r : BitVec 64) (n : Nat) (m : BitVec 64) (hm : ∀ i, m.getLsbD i = decide (i < n)) : r = ((r >>> n) <<< n) ^^^ (r &&& m) := by
  apply BitVec.eq_of_getLsbD_eq
  intro i hi
  rw [BitVec.getLsbD_xor, BitVec.getLsbD_shiftLeft, BitVec.getLsbD_ushiftRight, BitVec.getLsbD_and, hm]
  by_cases h : i < n
  · simp [h]
  · simp [h, hi, show n + (i - n) = i by omega]
theorem mask15 (i : Nat) : (15#64).getLsbD i = decide (i < 4) := by
  by_cases h : i < 64
  · have : ∀ j : Fin 64, (15#64).getLsbD j.val = decide (j.val < 4) := by decide
    exact this ⟨i, h⟩
  · rw [BitVec.getLsbD_of_ge _ _ (by omega)]; simp; omega
theorem shl_shr (y : BitVec 64) (n : Nat) (hy : ∀ i, 64 ≤ i + n → y.getLsbD i = false) : (y <<< n) >>> n = y := by
  apply BitVec.eq_of_getLsbD_eq
  intro i hi
  rw [BitVec.getLsbD_ushiftRight, BitVec.getLsbD_shiftLeft]
  by_cases h : n + i < 64
  · simp [h]
  · simp [h]; exact hy i (by omega)
theorem ones_low : ∀ j : Fin 16, ones 4 (BitVec.ofNat 64 j.val) = nib (BitVec.ofNat 64 j.val) := by decide
theorem ones_four (r : BitVec 64) : ones 4 r = half r := by
  have hl : (r &&& 15#64).toNat < 16 := by rw [BitVec.toNat_and]; exact Nat.lt_succ_of_le Nat.and_le_right
  have h1 : ones 4 (r &&& 15#64) = nib (r &&& 15#64) := by
    have := ones_low ⟨(r &&& 15#64).toNat, hl⟩
    simpa only [BitVec.ofNat_toNat, BitVec.setWidth_eq] using this
  have h2 : ones 4 ((r >>> 4) <<< 4) = r >>> 4 := by
    rw [ones_even 4 _ (fun i hi => by rw [BitVec.getLsbD_shiftLeft]; simp [hi]), shl_shr _ _ (fun i hi => by rw [BitVec.getLsbD_ushiftRight]; exact BitVec.getLsbD_of_ge _ _ (by omega))]
  conv => lhs; rw [parts r 4 15#64 mask15]
  rw [ones_xor, h1, h2]
  rfl
theorem ones_eight (r : BitVec 64) : ones 8 r = half (half r) := by rw [show 8 = 4 + 4 from rfl, ones_add, ones_four, ones_four]
theorem byte_ones (r : BitVec 64) (b : UInt8) : byte r b = ones 8 (r ^^^ wide b) := by rw [ones_eight]; rfl
/-- A bit of a byte. -/
def bit (b : UInt8) (j : Nat) : BitVec 64 := if b.toNat / 2 ^ j % 2 = 1 then 1#64 else 0#64
/-- Bits j, j + 1, .., 7 of a byte, one by one. -/
def bits8 (b : UInt8) : Nat → Nat → BitVec 64 → BitVec 64
  | 0, _, r => r
  | n + 1, j, r => bits8 b n (j + 1) (one (r ^^^ bit b j))
theorem bits8_xor (b : UInt8) (n : Nat) : ∀ (j : Nat) (r s : BitVec 64), bits8 b n j (r ^^^ s) = bits8 b n j r ^^^ ones n s := by
  induction n with
  | zero => intro j r s; rfl
  | succ n ih =>
    intro j r s
    simp only [bits8, ones]
    rw [BitVec.xor_assoc, BitVec.xor_comm s, ← BitVec.xor_assoc, one_xor, ih]
theorem bits8_zero : ∀ j : Fin 256, bits8 (UInt8.ofNat j.val) 8 0 0#64 = ones 8 (wide (UInt8.ofNat j.val)) := by decide +kernel
theorem bits8_all (b : UInt8) (r : BitVec 64) : bits8 b 8 0 r = byte r b := by
  have h0 : bits8 b 8 0 0#64 = ones 8 (wide b) := by
    have := bits8_zero ⟨b.toNat, b.toNat_lt⟩
    simpa using this
  have := bits8_xor b 8 0 0#64 r
  rw [BitVec.zero_xor] at this
  rw [this, h0, byte_ones, ones_xor, BitVec.xor_comm]
end Go.Proofs.YtcbbdkennmopdaaGreatDoor.Crc
