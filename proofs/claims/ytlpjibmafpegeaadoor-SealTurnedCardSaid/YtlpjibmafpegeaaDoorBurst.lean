/- A burst of at most 64 bits turns the sum; of a frame in which one turned something behind its first four bytes nothing is opened. Plain words, no program in sight. -/
import Derived.Test.YtlpjibmafpegeaaDoorCrcMath
import Derived.Test.YtlpjibmafpegeaaDoorFrameMath
namespace Go.Proofs.YtlpjibmafpegeaaDoor.Crc
def bw (b : Bool) : BitVec 64 := if b then 1#64 else 0#64
/-- Bits, one by one. -/
def feed : Nat → BitVec 64 → (Nat → Bool) → BitVec 64
  | 0, r, _ => r
  | n + 1, r, f => feed n (one (r ^^^ bw (f 0))) (fun p => f (p + 1))
theorem bw_xor (a b : Bool) : bw (a ^^ b) = bw a ^^^ bw b := by cases a <;> cases b <;> decide
theorem four_xor (a b c d : BitVec 64) : (a ^^^ b) ^^^ (c ^^^ d) = (a ^^^ c) ^^^ (b ^^^ d) := by ac_rfl
theorem feed_xor (n : Nat) : ∀ (r s : BitVec 64) (f g : Nat → Bool), feed n (r ^^^ s) (fun p => f p ^^ g p) = feed n r f ^^^ feed n s g := by
  induction n with
  | zero => intro r s f g; rfl
  | succ n ih =>
    intro r s f g
    simp only [feed]
    rw [bw_xor, four_xor, one_xor]
    exact ih _ _ (fun p => f (p + 1)) (fun p => g (p + 1))
theorem feed_congr (n : Nat) : ∀ (r : BitVec 64) (f g : Nat → Bool), (∀ p, p < n → f p = g p) → feed n r f = feed n r g := by
  induction n with
  | zero => intro r f g _; rfl
  | succ n ih =>
    intro r f g h
    simp only [feed]
    rw [h 0 (by omega)]
    exact ih _ _ _ (fun p hp => h (p + 1) (by omega))
theorem feed_add (m n : Nat) : ∀ (r : BitVec 64) (f : Nat → Bool), feed (m + n) r f = feed n (feed m r f) (fun p => f (p + m)) := by
  induction m with
  | zero => intro r f; simp [feed]
  | succ m ih =>
    intro r f
    rw [Nat.succ_add]
    simp only [feed]
    rw [ih]
    apply feed_congr
    intro p _
    congr 1
theorem one_zero : one 0#64 = 0#64 := by decide
theorem feed_none (n : Nat) : ∀ f : Nat → Bool, (∀ p, p < n → f p = false) → feed n 0#64 f = 0#64 := by
  induction n with
  | zero => intro f _; rfl
  | succ n ih =>
    intro f h
    simp only [feed]
    rw [h 0 (by omega), show (0#64 ^^^ bw false) = 0#64 by decide, one_zero]
    exact ih _ (fun p hp => h (p + 1) (by omega))
theorem one_bw (b : Bool) : one (bw b) = if b then poly else 0#64 := by cases b <;> decide
theorem one_word (X : BitVec 64) : one X = one (bw (X.getLsbD 0)) ^^^ (X >>> 1) := by
  rw [one_bw]; unfold one; rw [BitVec.xor_comm]
/-- A word's bits, one by one, are the word itself. -/
theorem feed_word (n : Nat) : ∀ r X : BitVec 64, (∀ p, n ≤ p → X.getLsbD p = false) → feed n r (fun p => X.getLsbD p) = ones n (r ^^^ X) := by
  induction n with
  | zero =>
    intro r X h
    have : X = 0#64 := BitVec.eq_of_getLsbD_eq (fun i _ => by rw [h i (by omega)]; simp)
    rw [this]; simp [feed, ones]
  | succ n ih =>
    intro r X h
    simp only [feed, ones]
    have e : (fun p => X.getLsbD (p + 1)) = fun p => (X >>> 1).getLsbD p := by
      funext p; rw [BitVec.getLsbD_ushiftRight, Nat.add_comm]
    rw [e, ih _ _ (fun p hp => by rw [BitVec.getLsbD_ushiftRight]; exact h _ (by omega)), one_xor r X, one_word X, one_xor, BitVec.xor_assoc]
theorem one_only (a : BitVec 64) (h : one a = 0#64) : a = 0#64 := by
  have h0 : a.getLsbD 0 = false := by
    have h63 := congrArg (fun b : BitVec 64 => b.getLsbD 63) h
    simp only [one, BitVec.getLsbD_xor, BitVec.getLsbD_ushiftRight] at h63
    rw [BitVec.getLsbD_of_ge a _ (by omega)] at h63
    cases ha : a.getLsbD 0 with
    | false => rfl
    | true => rw [ha] at h63; exact absurd h63 (by decide)
  rw [one_even a h0] at h
  apply BitVec.eq_of_getLsbD_eq
  intro i _
  cases i with
  | zero => rw [h0]; simp
  | succ i =>
    have := congrArg (fun b : BitVec 64 => b.getLsbD i) h
    simp only [BitVec.getLsbD_ushiftRight] at this
    rw [Nat.add_comm] at this
    rw [this]; simp
theorem ones_only (n : Nat) : ∀ a : BitVec 64, ones n a = 0#64 → a = 0#64 := by
  induction n with
  | zero => intro a h; exact h
  | succ n ih => intro a h; exact one_only a (ih _ h)
/-- A burst that turns nothing is none. -/
theorem burst_zero (a n : Nat) (X : BitVec 64) (h : feed (a + n) 0#64 (fun p => decide (a ≤ p) && X.getLsbD (p - a)) = 0#64) : ∀ p, p < n → X.getLsbD p = false := by
  rw [feed_add, feed_none a _ (fun p hp => by rw [decide_eq_false (by omega)]; rfl)] at h
  obtain ⟨Y, hY⟩ : ∃ Y : BitVec 64, ∀ p, Y.getLsbD p = (decide (p < n) && X.getLsbD p) := by
    refine ⟨BitVec.ofNat 64 (X.toNat % 2 ^ n), fun p => ?_⟩
    rw [BitVec.getLsbD_ofNat, Nat.testBit_mod_two_pow]
    show (decide (p < 64) && (decide (p < n) && X.getLsbD p)) = _
    by_cases hp : p < 64
    · rw [decide_eq_true hp]; simp
    · rw [BitVec.getLsbD_of_ge X p (by omega)]; simp
  have e : feed n 0#64 (fun p => decide (a ≤ p + a) && X.getLsbD (p + a - a)) = feed n 0#64 (fun p => Y.getLsbD p) := by
    apply feed_congr
    intro p hp
    rw [hY, decide_eq_true (by omega : a ≤ p + a), decide_eq_true hp, Nat.add_sub_cancel]
  rw [e, feed_word n _ _ (fun p hp => by rw [hY, decide_eq_false (by omega)]; rfl), BitVec.zero_xor] at h
  have hY0 := ones_only n Y h
  intro p hp
  have := hY p
  rw [hY0, decide_eq_true hp] at this
  simpa using this.symm
theorem getD_lt (l : List UInt8) (i : Nat) (h : i < l.length) : l.getD i 0 = l[i] := by simp [List.getD, h]
/-- Bit p of bytes. -/
def mb (l : List UInt8) (p : Nat) : Bool := (l.getD (p / 8) 0).toNat.testBit (p % 8)
theorem mb_at (l : List UInt8) (i q : Nat) (h : q < 8) : mb l (8 * i + q) = (l.getD i 0).toNat.testBit q := by
  unfold mb
  rw [show (8 * i + q) / 8 = i by omega, show (8 * i + q) % 8 = q by omega]
theorem byte_bits (a b : UInt8) (h : ∀ q, q < 8 → a.toNat.testBit q = b.toNat.testBit q) : a = b := by
  apply UInt8.toNat.inj
  apply Nat.eq_of_testBit_eq
  intro i
  by_cases hi : i < 8
  · exact h i hi
  · have hp : 2 ^ 8 ≤ 2 ^ i := Nat.pow_le_pow_right (by omega) (by omega)
    have ha := a.toNat_lt
    have hb := b.toNat_lt
    rw [Nat.testBit_lt_two_pow (by omega), Nat.testBit_lt_two_pow (by omega)]
theorem getD_bits (l m : List UInt8) (i : Nat) (h : ∀ q, q < 8 → mb l (8 * i + q) = mb m (8 * i + q)) : l.getD i 0 = m.getD i 0 :=
  byte_bits _ _ (fun q hq => by have := h q hq; rwa [mb_at _ _ _ hq, mb_at _ _ _ hq] at this)
theorem list_bits (l m : List UInt8) (hl : l.length = m.length) (h : ∀ p, p < 8 * m.length → mb l p = mb m p) : l = m := by
  apply List.ext_getElem hl
  intro i h1 h2
  have := getD_bits l m i (fun q hq => h _ (by omega))
  simpa [List.getD, h1, h2] using this
theorem bit_bw (b : UInt8) (j : Nat) : bit b j = bw (b.toNat.testBit j) := by
  unfold bit bw
  rw [Nat.testBit_eq_decide_div_mod_eq]
  simp
theorem bits8_feed (b : UInt8) (n : Nat) : ∀ (j : Nat) (r : BitVec 64), bits8 b n j r = feed n r (fun p => b.toNat.testBit (j + p)) := by
  induction n with
  | zero => intro j r; rfl
  | succ n ih =>
    intro j r
    simp only [bits8, feed]
    rw [ih, bit_bw]
    apply feed_congr
    intro p _
    rw [show j + 1 + p = j + (p + 1) by omega]
theorem bytes_feed (l : List UInt8) : ∀ r : BitVec 64, bytes r l = feed (8 * l.length) r (mb l) := by
  induction l with
  | nil => intro r; rfl
  | cons b l ih =>
    intro r
    show bytes (byte r b) l = _
    rw [List.length_cons, show 8 * (l.length + 1) = 8 + 8 * l.length by omega, feed_add, ih, ← bits8_all b r, bits8_feed]
    have e : feed 8 r (fun p => b.toNat.testBit (0 + p)) = feed 8 r (mb (b :: l)) := by
      apply feed_congr
      intro p hp
      unfold mb
      rw [show p / 8 = 0 by omega, show p % 8 = p by omega, Nat.zero_add]
      rfl
    rw [e]
    apply feed_congr
    intro p _
    unfold mb
    rw [show (p + 8) / 8 = p / 8 + 1 by omega, show (p + 8) % 8 = p % 8 by omega]
    rfl
/-- One bit turned. -/
def flip (l : List UInt8) (p : Nat) : List UInt8 := l.set (p / 8) (UInt8.ofNat ((l.getD (p / 8) 0).toNat ^^^ 2 ^ (p % 8)))
theorem flip_length (l : List UInt8) (p : Nat) : (flip l p).length = l.length := by simp [flip]
theorem mb_flip (l : List UInt8) (p q : Nat) (hp : p < 8 * l.length) : mb (flip l p) q = (mb l q ^^ decide (p = q)) := by
  unfold mb flip
  by_cases h : p / 8 = q / 8
  · rw [h]
    have hlt : q / 8 < l.length := by omega
    rw [getD_lt _ _ (by simpa using hlt), List.getElem_set_self, UInt8.toNat_ofNat', show (2 : Nat) ^ 8 = 2 ^ 8 from rfl, Nat.testBit_mod_two_pow, Nat.testBit_xor, Nat.testBit_two_pow, decide_eq_true (by omega : q % 8 < 8), Bool.true_and]
    congr 1
    by_cases hpq : p = q
    · rw [hpq]; simp
    · rw [decide_eq_false (by omega), decide_eq_false hpq]
  · rw [decide_eq_false (by intro e; exact h (by rw [e])), Bool.xor_false]
    congr 2
    simp only [List.getD, List.getElem?_set, if_neg h]
/-- The burst, as far as there are bytes. -/
def turnK (l : List UInt8) (a : Nat) (x : BitVec 64) : Nat → List UInt8
  | 0 => l
  | k + 1 => if a + k < 8 * l.length ∧ x.getLsbD k = true then flip (turnK l a x k) (a + k) else turnK l a x k
theorem turnK_length (l : List UInt8) (a : Nat) (x : BitVec 64) (k : Nat) : (turnK l a x k).length = l.length := by
  induction k with
  | zero => rfl
  | succ k ih =>
    simp only [turnK]
    split
    · rw [flip_length, ih]
    · exact ih
theorem mb_turnK (l : List UInt8) (a : Nat) (x : BitVec 64) (k : Nat) (p : Nat) (hp : p < 8 * l.length) : mb (turnK l a x k) p = (mb l p ^^ (decide (a ≤ p) && (decide (p < a + k) && x.getLsbD (p - a)))) := by
  induction k with
  | zero =>
    simp only [turnK]
    by_cases h : a ≤ p
    · rw [decide_eq_false (by omega : ¬ p < a + 0)]; simp
    · rw [decide_eq_false h]; simp
  | succ k ih =>
    simp only [turnK]
    split
    · rename_i h
      rw [mb_flip _ _ _ (by rw [turnK_length]; exact h.1), ih]
      by_cases hpk : a + k = p
      · subst hpk
        rw [decide_eq_false (by omega : ¬ a + k < a + k), decide_eq_true (by omega : a ≤ a + k), decide_eq_true (by omega : a + k < a + (k + 1)), Nat.add_sub_cancel_left, h.2]
        simp
      · rw [decide_eq_false hpk, Bool.xor_false]
        congr 3
        exact decide_eq_decide.2 (by omega)
    · rename_i h
      rw [ih]
      by_cases hpk : a + k = p
      · subst hpk
        have hx : x.getLsbD k = false := by
          cases hh : x.getLsbD k with
          | false => rfl
          | true => exact absurd ⟨hp, hh⟩ h
        rw [Nat.add_sub_cancel_left, hx]
        simp
      · congr 3
        exact decide_eq_decide.2 (by omega)
theorem turnK_end (l : List UInt8) (a : Nat) (x : BitVec 64) (i : Nat) (h : ∀ k, i ≤ k → 8 * l.length ≤ a + k) (m : Nat) (hm : i ≤ m) : turnK l a x m = turnK l a x i := by
  induction m with
  | zero => obtain rfl : i = 0 := by omega
            rfl
  | succ m ih =>
    by_cases e : i = m + 1
    · rw [e]
    · have := h m (by omega)
      simp only [turnK]
      rw [if_neg (by omega), ih (by omega)]
def turned (l : List UInt8) (a : Nat) (x : BitVec 64) : List UInt8 := turnK l a x 64
theorem turned_length (l : List UInt8) (a : Nat) (x : BitVec 64) : (turned l a x).length = l.length := turnK_length _ _ _ _
theorem mb_turned (l : List UInt8) (a : Nat) (x : BitVec 64) (p : Nat) (hp : p < 8 * l.length) : mb (turned l a x) p = (mb l p ^^ (decide (a ≤ p) && x.getLsbD (p - a))) := by
  unfold turned
  rw [mb_turnK l a x 64 p hp]
  by_cases h : p < a + 64
  · rw [decide_eq_true h, Bool.true_and]
  · rw [decide_eq_false h, BitVec.getLsbD_of_ge x _ (by omega), Bool.false_and]
theorem not_inj {a b : BitVec 64} (h : ~~~a = ~~~b) : a = b := by
  have := congrArg (fun z => ~~~z) h
  simpa using this
/-- A burst that leaves the sum leaves the bytes. -/
theorem turned_sum (l : List UInt8) (a : Nat) (x : BitVec 64) (h : sumL (turned l a x) = sumL l) : turned l a x = l := by
  have h1 := not_inj h
  rw [bytes_feed, bytes_feed, turned_length] at h1
  have e : feed (8 * l.length) (~~~ 0#64) (mb (turned l a x)) = feed (8 * l.length) ((~~~ 0#64) ^^^ 0#64) (fun p => mb l p ^^ (decide (a ≤ p) && x.getLsbD (p - a))) := by
    rw [BitVec.xor_zero]
    exact feed_congr _ _ _ _ (fun p hp => mb_turned l a x p hp)
  rw [e, feed_xor] at h1
  have hz : feed (8 * l.length) 0#64 (fun p => decide (a ≤ p) && x.getLsbD (p - a)) = 0#64 := by
    generalize feed (8 * l.length) (~~~ 0#64) (mb l) = u at h1
    generalize feed (8 * l.length) 0#64 _ = v at h1
    have h2 := congrArg (fun z => u ^^^ z) h1
    simp only [← BitVec.xor_assoc] at h2
    simpa using h2
  apply list_bits _ _ (turned_length _ _ _)
  intro p hp
  rw [mb_turned l a x p hp]
  by_cases hap : a ≤ p
  · rw [show 8 * l.length = a + (8 * l.length - a) by omega] at hz
    rw [burst_zero a _ x hz (p - a) (by omega)]
    simp
  · rw [decide_eq_false hap]; simp
theorem mb_le8 (X : BitVec 64) (p : Nat) (hp : p < 64) : mb (le8 X) p = X.getLsbD p := by
  unfold mb le8
  have h8 : p / 8 < 8 := by omega
  rw [getD_lt _ _ (by simpa using h8), List.getElem_map, List.getElem_range, UInt8.toNat_ofNat', Nat.mod_mod_of_dvd _ (by decide), show (256 : Nat) = 2 ^ 8 from rfl, Nat.testBit_mod_two_pow, ← Nat.pow_mul, Nat.testBit_div_two_pow, decide_eq_true (by omega : p % 8 < 8), Bool.true_and, show p % 8 + 8 * (p / 8) = p by omega]
  rfl
/-- Bytes with their sum behind them come to one and the same. -/
theorem residue (l : List UInt8) : bytes (~~~ 0#64) (l ++ le8 (sumL l)) = ones 64 (~~~ 0#64) := by
  rw [bytes_append]
  unfold sumL
  generalize bytes (~~~ 0#64) l = r
  rw [bytes_feed, le8_length, feed_congr _ _ _ (fun p => (~~~ r).getLsbD p) (fun p hp => mb_le8 _ p hp), feed_word _ _ _ (fun p hp => BitVec.getLsbD_of_ge _ _ hp)]
  congr 1
  apply BitVec.eq_of_getLsbD_eq
  intro i hi
  rw [BitVec.getLsbD_xor, BitVec.getLsbD_not, BitVec.getLsbD_not]
  simp [hi]
theorem turned_open (d : List UInt8) (hd : d.length ≤ 65536) (a : Nat) (ha : 32 ≤ a) (x : BitVec 64) (h : (openL (turned (frame d) a x)).2.2 = 0) : turned (frame d) a x = frame d := by
  have hlen : (turned (frame d) a x).length = d.length + 12 := by rw [turned_length, frame_length]
  have hg : ∀ i, i < 4 → (turned (frame d) a x).getD i 0 = (frame d).getD i 0 := fun i hi => getD_bits _ _ i (fun q hq => by
    rw [mb_turned _ _ _ _ (by rw [frame_length]; omega), decide_eq_false (by omega)]; simp)
  have ht : tell (turned (frame d) a x) = d.length := by
    have := tell_frame d [] hd
    rw [List.append_nil] at this
    unfold tell at this ⊢
    rw [hg 0 (by omega), hg 1 (by omega), hg 2 (by omega), hg 3 (by omega)]
    exact this
  generalize hT : turned (frame d) a x = T at *
  have hf : frame ((T.drop 4).take (tell T)) = T.take (tell T + 12) := by
    refine Classical.byContradiction fun hf => ?_
    rw [openL_bad T (by omega) (by omega) hf] at h
    simp at h
  rw [frame_iff T (by omega) (by omega), ht, List.take_of_length_le (by omega : T.length ≤ d.length + 12)] at hf
  have hT2 : T = T.take (4 + d.length) ++ le8 (sumL (T.take (4 + d.length))) := by
    conv => lhs; rw [← List.take_append_drop (4 + d.length) T]
    rw [hf]
  have h1 : sumL T = ~~~ ones 64 (~~~ 0#64) := by rw [hT2]; exact congrArg (fun z => ~~~z) (residue _)
  have h2 : sumL (frame d) = ~~~ ones 64 (~~~ 0#64) := congrArg (fun z => ~~~z) (residue (head4 d))
  rw [← hT]
  apply turned_sum
  rw [hT, h1, h2]
end Go.Proofs.YtlpjibmafpegeaaDoor.Crc
