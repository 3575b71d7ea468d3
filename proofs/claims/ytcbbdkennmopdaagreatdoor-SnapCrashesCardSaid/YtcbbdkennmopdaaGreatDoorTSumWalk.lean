/- What the sum's methods do: Add, Value, Of, each as the register's plain words (Crc) say. -/
import Derived.Test.YtcbbdkennmopdaaGreatDoorProg
import Derived.Test.YtcbbdkennmopdaaGreatDoorTWWords
import Derived.Test.YtcbbdkennmopdaaGreatDoorTWLast
import Derived.Test.YtcbbdkennmopdaaGreatDoorTCrc
import Derived.WalkKit
import Derived.KernelRfl
namespace Go.Proofs.YtcbbdkennmopdaaGreatDoor
open Go.RowKit Go.Proofs.YtcbbdkennmopdaaGreatDoorW.PrintWords
namespace SumW
/-- The table of nibbles, where the program keeps it. -/
def Tab (w : World) : Prop := ∀ i : Nat, i < 16 → w.cell? ⟨0, i, none⟩ = some (.int .u64 (Crc.bv (Crc.nibs.getD i 0#64)))
theorem Tab.lt {w : World} (h : Tab w) : 0 < w.heap.size := by
  have h0 := h 0 (by decide)
  unfold World.cell? at h0
  by_cases hl : 0 < w.heap.size
  · exact hl
  · rw [Array.getElem?_eq_none (by simpa using hl)] at h0; simp at h0
theorem Tab.below {B : Nat} {w w1 : World} (h : Tab w) (hb : Below B w w1) (hB : 0 < B) : Tab w1 :=
  fun i hi => by rw [hb.cell (p := ⟨0, i, none⟩) hB]; exact h i hi
theorem Tab.step {w w1 : World} (h : Tab w) (hb : Below w.heap.size w w1) : Tab w1 := h.below hb h.lt
theorem low_nat (a : BitVec 64) : (Crc.bv (Crc.low a)).toNat = (Crc.low a).toNat := by unfold Crc.bv; simp
theorem low_lt (a : BitVec 64) : (Crc.low a).toNat < 16 := by unfold Crc.low; rw [BitVec.toNat_and]; exact Nat.lt_succ_of_le Nat.and_le_right
theorem Tab.at_ {w : World} (h : Tab w) (a : BitVec 64) : w.cell? ⟨0, (Crc.bv (Crc.low a)).toNat, none⟩ = some (.int .u64 (Crc.bv (Crc.nib (Crc.low a)))) := by
  rw [low_nat]; exact h _ (low_lt a)
theorem low_lt' (a : BitVec 64) : (Crc.bv (Crc.low a) < 16) = True := eq_true (by have := low_lt a; unfold Crc.bv; omega)
theorem low_ge' (a : BitVec 64) : (0 ≤ Crc.bv (Crc.low a)) = True := eq_true (Crc.bv_range _).1
theorem ofInt_bv (a : BitVec 64) : BitVec.ofInt 64 (Crc.bv a) = a := by simp [Crc.bv]
theorem u64_bv (a : BitVec 64) : IntKind.u64.wrap (a.toNat : Int) = Crc.bv a := by
  have := a.isLt
  simp [IntKind.wrap, IntKind.bits, IntKind.signed, Crc.bv]; omega
theorem bits_xor_bv (a b : BitVec 64) : bits .xor .u64 (Crc.bv a) (Crc.bv b) = Crc.bv (a ^^^ b) := by
  show IntKind.u64.wrap (((BitVec.ofInt 64 (Crc.bv a)) ^^^ (BitVec.ofInt 64 (Crc.bv b))).toNat : Int) = _
  rw [ofInt_bv, ofInt_bv, u64_bv]
theorem bits_and_bv (a : BitVec 64) : bits .and .u64 (Crc.bv a) 15 = Crc.bv (Crc.low a) := by
  show IntKind.u64.wrap (((BitVec.ofInt 64 (Crc.bv a)) &&& (BitVec.ofInt 64 15)).toNat : Int) = _
  rw [ofInt_bv, u64_bv]; rfl
theorem bits_not_bv (a : BitVec 64) : bits .xor .u64 IntKind.u64.max (Crc.bv a) = Crc.bv (~~~a) := by
  show IntKind.u64.wrap (((BitVec.ofInt 64 IntKind.u64.max) ^^^ (BitVec.ofInt 64 (Crc.bv a))).toNat : Int) = _
  rw [ofInt_bv, u64_bv, show BitVec.ofInt 64 IntKind.u64.max = BitVec.allOnes 64 from rfl, BitVec.allOnes_xor]
theorem shr_bv (a : BitVec 64) : Crc.bv a / 16 = Crc.bv (Crc.high a) := by
  unfold Crc.bv Crc.high
  rw [BitVec.toNat_ushiftRight, Nat.shiftRight_eq_div_pow]; omega
theorem byte_nat (b : UInt8) : (b.toNat : Int) = Crc.bv (Crc.wide b) := by
  have := b.toNat_lt
  unfold Crc.bv Crc.wide
  simp only [BitVec.toNat_setWidth, UInt8.toNat_toBitVec]; omega
theorem byte_bv (b : UInt8) : IntKind.u64.wrap (b.toNat : Int) = Crc.bv (Crc.wide b) := by
  rw [← byte_nat]
  have := b.toNat_lt
  simp [IntKind.wrap, IntKind.bits, IntKind.signed]; omega
theorem xor_byte (a : BitVec 64) (b : UInt8) : bits .xor .u64 (Crc.bv a) (b.toNat : Int) = Crc.bv (a ^^^ Crc.wide b) := by rw [byte_nat, bits_xor_bv]
attribute [local go_sem] bits_xor_bv bits_and_bv bits_not_bv shr_bv byte_bv xor_byte low_lt' low_ge'
theorem half_def (r : BitVec 64) : Crc.high r ^^^ Crc.nib (Crc.low r) = Crc.half r := rfl
theorem byte_def (r : BitVec 64) (b : UInt8) : Crc.half (Crc.half (r ^^^ Crc.wide b)) = Crc.byte r b := rfl
theorem take_succ (s : ByteArray) (k : Nat) (h : k < s.size) : s.data.toList.take (k + 1) = s.data.toList.take k ++ [s[k]] := by
  rw [List.take_succ_eq_append_getElem (by simpa using h)]; rfl
theorem take_all (s : ByteArray) (k : Nat) (h : ¬ k < s.size) : s.data.toList.take k = s.data.toList := List.take_of_length_le (by have : s.data.toList.length = s.size := rfl; omega)
theorem texts_next (r : BitVec 64) (xs : List ByteArray) (k : Nat) (h : k < xs.length) : Crc.texts r (xs.take (k + 1)) = Crc.bytes (Crc.texts r (xs.take k)) (rdOf ByteArray.empty xs (k : Int)).data.toList := by
  rw [List.take_succ_eq_append_getElem h, Crc.texts_snoc]
  simp [rdOf, List.getD, h]
set_option maxRecDepth 100000 in
theorem add_some (g : Nat) (v : BitVec 64) (A : Option Addr) (c : Nat) (xs : List ByteArray) (w : World) (h : w.cell? ⟨g, 0, none⟩ = some (.int .u64 (Crc.bv v))) (hf : w.frozen? ⟨g, 0, none⟩ = false) (hr : Kd.C Kd.string w A xs.length xs) (hbig : ∀ s ∈ xs, s.size ≤ 9223372036854775807) (hT : Tab w) (z : Int) (HZ : Aside0 (z = Crc.bv (~~~ Crc.texts (~~~ v) xs))) :
    Calls Tryz.prog 156 #[.pointer (some ⟨g, 0, none⟩), .slice A xs.length c] w fun e w' => e = .returned (.pointer (some ⟨g, 0, none⟩)) ∧ w' = w.setCell ⟨g, 0, none⟩ (.int .u64 z) := by
  have HR := Aside0.mk hr
  have HB := Aside0.mk hbig
  clear hr hbig
  have hlen : xs.length ≤ 9223372036854775807 := Kd.C_max HR.out
  have htab := hT.at_
  clear hT
  go_enter Tryz.func156, Tryz.ntmps156
  go_wp2
  go_loop [18, 5] (fun i r => ∃ (k : Nat) (x : BitVec 64), k ≤ xs.length ∧ i = .int .i64 k ∧ r = .int .u64 (Crc.bv x) ∧ Aside0 (x = Crc.texts (~~~ v) (xs.take k))) (fun i _ => xs.length - (intOf i).toNat)
  case atStart => exact ⟨0, ~~~ v, Nat.zero_le _, rfl, rfl, ⟨rfl⟩⟩
  case round =>
    obtain ⟨k, x, hk, rfl, rfl, HX⟩ := hrel
    by_cases hlt : k < xs.length
    · obtain ⟨ad, e0, hcell⟩ := Kd.at_string HR.out (k : Int) (by omega) (by omega)
      cases e0
      simp only [Int.toNat_natCast] at hcell
      have hnext := texts_next (~~~ v) xs k hlt
      have hsl : (rdOf ByteArray.empty xs (k : Int)).size ≤ 9223372036854775807 := HB.out _ (by simp [rdOf, List.getD, hlt])
      generalize rdOf ByteArray.empty xs (k : Int) = s at hcell hnext hsl
      have HN := Aside0.mk hnext
      clear hnext
      go_wp2
      go_loop [24, 5] (fun i r => ∃ (j : Nat) (y : BitVec 64), j ≤ s.size ∧ i = .int .i64 j ∧ r = .int .u64 (Crc.bv y) ∧ Aside0 (y = Crc.bytes x (s.data.toList.take j))) (fun i _ => s.size - (intOf i).toNat)
      case atStart => exact ⟨0, x, Nat.zero_le _, rfl, rfl, ⟨rfl⟩⟩
      case round =>
        obtain ⟨j, y, hj, rfl, rfl, HY⟩ := hrel
        by_cases hlt2 : j < s.size
        · go_wp2
          go_round
          case rel => exact ⟨j + 1, Crc.byte y s[j], by omega, by go_num, by rw [half_def, half_def, byte_def], ⟨by rw [HY.out, take_succ s j hlt2, Crc.bytes_snoc]⟩⟩
          case measure => simp [intOf]; omega
        · go_wp2
          go_round
          case rel => exact ⟨k + 1, y, by omega, by go_num, rfl, ⟨by rw [HN.out, HY.out, HX.out, take_all s j hlt2]⟩⟩
          case measure => simp [intOf]; omega
    · go_wp2
      go_ret
      exact ⟨rfl, by rw [HZ.out, HX.out, List.take_of_length_le (by omega)]⟩
theorem value_some (g : Nat) (v : Int) (w : World) (h : w.cell? ⟨g, 0, none⟩ = some (.int .u64 v)) : Calls Tryz.prog 157 #[.pointer (some ⟨g, 0, none⟩)] w fun e w' => e = .returned (.int .u64 v) ∧ w' = w := by
  go_enter Tryz.func157, Tryz.ntmps157
  go_wp2
  go_ret
  exact ⟨rfl, rfl⟩
end SumW
/-- Of, in the printed contracts' form. -/
def seal_Of.f (l0 : List ByteArray) : Option Int := if (∀ s ∈ l0, s.size ≤ 9223372036854775807) then some (Crc.bv (Crc.sum l0)) else none
theorem seal_Of.calls (A0 : Option Addr) (c0 : Nat) (l0 : List ByteArray) (r : Int) (w : World) (hr0 : Kd.C Kd.string w A0 l0.length l0) (_hc0 : l0.length ≤ c0) (hT : SumW.Tab w) (h : seal_Of.f l0 = some r) :
    Calls Tryz.prog 130 #[.slice A0 l0.length c0] w fun e w' => e = .returned (.int .u64 r) ∧ Below w.heap.size w w' := by
  have hbig : ∀ s ∈ l0, s.size ≤ 9223372036854775807 := by
    unfold seal_Of.f at h
    split at h
    · assumption
    · cases h
  have HBIG := Aside0.mk hbig
  have HR := Aside0.mk hr0
  have HT := Aside0.mk hT
  have HV : Aside0 (r = Crc.bv (Crc.sum l0)) := ⟨by unfold seal_Of.f at h; rw [if_pos hbig] at h; exact (Option.some.inj h).symm⟩
  clear h hbig hr0 hT
  have HZ : Aside0 (r = Crc.bv (~~~ Crc.texts (~~~ 0#64) l0)) := ⟨HV.out⟩
  go_enter Tryz.func130, Tryz.ntmps130
  go_wp2_with fail
  have HB : Below w.heap.size w (w.alloc (.cells #[.int .u64 0] 192)) := (Below.refl _ _).alloc (Nat.le_refl _) _
  refine (SumW.add_some w.heap.size 0#64 A0 c0 l0 _ (blk_cell (blk_new w (.cells #[.int .u64 0] 192)) 0) (blk_frozen (blk_new w (.cells #[.int .u64 0] 192)) 0) (Kd.C_alloc HR.out _) HBIG.out (HT.out.step HB) r HZ).mono ?_
  rintro e w1 ⟨rfl, rfl⟩
  clear HB
  go_wp2_with fail
  refine (SumW.value_some w.heap.size r _ (blk_cell (blk_new w (.cells #[.int .u64 r] 192)) 0)).mono ?_
  rintro e w1 ⟨rfl, rfl⟩
  go_wp2_with fail
  go_ret
  exact ⟨rfl, (Below.refl _ _).alloc (Nat.le_refl _) _⟩
end Go.Proofs.YtcbbdkennmopdaaGreatDoor
