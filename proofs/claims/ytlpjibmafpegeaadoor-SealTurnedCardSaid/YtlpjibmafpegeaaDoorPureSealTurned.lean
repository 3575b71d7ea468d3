/- The plain law of SealTurned. -/
import Derived.Test.YtlpjibmafpegeaaDoorPureFrame
import Derived.Test.YtlpjibmafpegeaaDoorPureSealOpens
import Derived.Test.YtlpjibmafpegeaaDoorPTx1
namespace Go.Proofs.YtlpjibmafpegeaaDoor.PT
open Go.RowKit Go.Proofs.YtlpjibmafpegeaaDoorW.PrintWords Go.Proofs.YtlpjibmafpegeaaDoorW.PrintLast Go.Proofs.YtlpjibmafpegeaaDoorW.PrintMore
open Go.Proofs.YtlpjibmafpegeaaDoor.PR (wrap64_id wrapU_id)
open Go.Proofs.YtlpjibmafpegeaaDoor.PA (toList_mkB size_list)
theorem turned_at (s : ByteArray) (a : Nat) (x : Int) (hs : s.size ≤ 1099511627776) (ha : a ≤ 1125899906842624) (hx : 0 ≤ x ∧ x < 18446744073709551616) : affluxref05_Turned.f s (a : Int) x = some (Crc.mkB (Crc.turned s.data.toList a (BitVec.ofInt 64 x))) := by
  unfold affluxref05_Turned.f
  rw [if_pos ⟨hs, by omega, by omega, hx.1, hx.2⟩, Int.toNat_natCast]
theorem mod_nat (a : Int) (n : Nat) (hn : 0 < n) : ∃ m : Nat, Int.tmod (IntKind.u64.wrap a) (n : Int) = (m : Int) ∧ m < n := by
  have hU : 0 ≤ IntKind.u64.wrap a := by simp [IntKind.wrap, IntKind.bits, IntKind.signed]; omega
  generalize IntKind.u64.wrap a = u at hU
  refine ⟨(u % n).toNat, ?_, ?_⟩
  · rw [Int.tmod_eq_emod_of_nonneg hU]
    have := Int.emod_nonneg u (by omega : (n : Int) ≠ 0)
    omega
  · have := Int.emod_lt_of_pos u (by omega : (0 : Int) < (n : Int))
    have := Int.emod_nonneg u (by omega : (n : Int) ≠ 0)
    omega
theorem two (s : ByteArray) (h0 : 0 < s.size) (h1 : s.size ≤ 1500) (a x : Int) (hx : 0 ≤ x ∧ x < 18446744073709551616) (k : Nat) (hk : 1000 ≤ k) : affluxlaw05_SealTurned.j2 k a x (Crc.mkB (Crc.frame s.data.toList)) false = some true := by
  obtain ⟨k, rfl⟩ : ∃ m, k = m + 1 := ⟨k - 1, by omega⟩
  have hsz : (Crc.mkB (Crc.frame s.data.toList)).size = s.size + 12 := by rw [Crc.mkB_size, Crc.frame_length, size_list]
  obtain ⟨m, hm, hml⟩ := mod_nat a (8 * s.size + 64) (by omega)
  have hw : IntKind.u64.wrap (wrap64 (wrap64 (8 * (((s.size + 12 : Nat) : Int))) - 32)) = ((8 * s.size + 64 : Nat) : Int) := by
    rw [wrap64_id (8 * _) (by omega) (by omega), wrap64_id _ (by omega) (by omega), wrapU_id _ (by omega) (by omega)]
    omega
  simp only [affluxlaw05_SealTurned.j2, Bool.false_eq_true, if_false]
  rw [hsz, hw, if_neg (by omega), hm, wrap64_id (m : Int) (by omega) (by omega), wrap64_id _ (by omega) (by omega), show (32 + (m : Int)) = ((32 + m : Nat) : Int) by omega, turned_at _ _ _ (by omega) (by omega) hx, Option.bind_some, Crc.mkB_list]
  have hT : (Crc.mkB (Crc.turned (Crc.frame s.data.toList) (32 + m) (BitVec.ofInt 64 x))).size = s.size + 12 := by rw [Crc.mkB_size, Crc.turned_length, Crc.frame_length, size_list]
  rw [PA.open_more _ (by omega) _ (by omega), Option.bind_some, toList_mkB, toList_mkB]
  unfold PA.openB
  rw [Crc.mkB_list]
  dsimp only
  have hc : ((Crc.turned (Crc.frame s.data.toList) (32 + m) (BitVec.ofInt 64 x) == Crc.frame s.data.toList) == ((((Crc.openL (Crc.turned (Crc.frame s.data.toList) (32 + m) (BitVec.ofInt 64 x))).2.2 : Nat) : Int) == 0)) = true := by
    by_cases he : Crc.turned (Crc.frame s.data.toList) (32 + m) (BitVec.ofInt 64 x) = Crc.frame s.data.toList
    · have ho := Crc.open_frame s.data.toList [] (by rw [size_list]; omega)
      rw [List.append_nil] at ho
      rw [he, ho]; simp
    · have hn : (Crc.openL (Crc.turned (Crc.frame s.data.toList) (32 + m) (BitVec.ofInt 64 x))).2.2 ≠ 0 := fun h => he (Crc.turned_open s.data.toList (by rw [size_list]; omega) (32 + m) (by omega) _ h)
      generalize (Crc.openL (Crc.turned (Crc.frame s.data.toList) (32 + m) (BitVec.ofInt 64 x))).2.2 = z at hn
      rw [beq_eq_false_iff_ne.2 he, show ((z : Int) == 0) = false from beq_eq_false_iff_ne.2 (by omega)]; rfl
  rw [if_pos hc, PA.awake_at _ (by omega)]
  rfl
theorem one_ (s : ByteArray) (h0 : 0 < s.size) (h1 : s.size ≤ 1500) (a x : Int) (hx : 0 ≤ x ∧ x < 18446744073709551616) (k : Nat) (hk : 1100 ≤ k) : affluxlaw05_SealTurned.j1 k s a x false = some true := by
  obtain ⟨k, rfl⟩ : ∃ m, k = m + 1 := ⟨k - 1, by omega⟩
  simp only [affluxlaw05_SealTurned.j1, Bool.false_eq_true, if_false]
  have hl : [s].length = 1 := rfl
  rw [PA.frame_at [s] (by rw [PA.joined_one, size_list]; omega) (by omega) k (by omega), Option.bind_some, PA.joined_one]
  dsimp only
  rw [if_pos rfl, decide_eq_false (by rw [Crc.mkB_size, Crc.frame_length, size_list]; omega)]
  exact two s h0 h1 a x hx k (by omega)
theorem SealTurned_pure (s : ByteArray) (a x : Int) (hx : 0 ≤ x ∧ x < 18446744073709551616) : affluxlaw05_SealTurned.f 2000 s a x = some true := by
  have haw : ∀ b : Bool, b = true → affluxlaw05_SealTurned.j0 2000 s a x b = some true := fun b hb => by
    subst hb
    rw [show 2000 = 1999 + 1 from rfl]
    simp only [affluxlaw05_SealTurned.j0]
    rw [if_pos trivial, PA.awake_at _ (by omega)]
    rfl
  unfold affluxlaw05_SealTurned.f
  by_cases h0 : s.size = 0
  · rw [if_pos (by omega)]; exact haw _ rfl
  · rw [if_neg (by omega)]
    by_cases h1 : 1500 < s.size
    · exact haw _ (decide_eq_true (by omega))
    · rw [decide_eq_false (by omega), show 2000 = 1999 + 1 from rfl]
      obtain ⟨m, hm, hml⟩ := mod_nat a (8 * s.size) (by omega)
      have hw : IntKind.u64.wrap (wrap64 (8 * (s.size : Int))) = ((8 * s.size : Nat) : Int) := by
        rw [wrap64_id _ (by omega) (by omega), wrapU_id _ (by omega) (by omega)]
        omega
      simp only [affluxlaw05_SealTurned.j0, Bool.false_eq_true, if_false]
      rw [hw, if_neg (by omega), hm, wrap64_id _ (by omega) (by omega), turned_at _ _ _ (by omega) (by omega) hx, Option.bind_some, toList_mkB]
      have hT : (Crc.mkB (Crc.turned s.data.toList m (BitVec.ofInt 64 x))).size = s.size := by rw [Crc.mkB_size, Crc.turned_length, size_list]
      by_cases he : Crc.turned s.data.toList m (BitVec.ofInt 64 x) = s.toList
      · rw [if_pos he]
        exact one_ s (by omega) (by omega) a x hx 1999 (by omega)
      · rw [if_neg he, PA.of_one _ (by omega), Option.bind_some, PA.of_one s (by omega), Option.bind_some, Crc.mkB_list, beq_eq_false_iff_ne.2 (fun h => he (by rw [ByteArray.toList_eq]; exact Crc.turned_sum _ _ _ (Crc.bv_inj h)))]
        exact one_ s (by omega) (by omega) a x hx 1999 (by omega)
end Go.Proofs.YtlpjibmafpegeaaDoor.PT
