/- The plain law of SealLong. -/
import Derived.Test.YtlpjibmafpegeaaDoorPureFrame
import Derived.Test.YtlpjibmafpegeaaDoorPureSealOpens
import Derived.Test.YtlpjibmafpegeaaDoorPLx2
namespace Go.Proofs.YtlpjibmafpegeaaDoor.PL
open Go.RowKit Go.Proofs.YtlpjibmafpegeaaDoorW.PrintWords Go.Proofs.YtlpjibmafpegeaaDoorW.PrintLast Go.Proofs.YtlpjibmafpegeaaDoorW.PrintMore
open Go.Proofs.YtlpjibmafpegeaaDoor.PR (wrap64_id)
theorem nums_size (l : List Int) : (strOfNums l).size = l.length := by
  show (strOfNums l).data.size = _
  simp [strOfNums]
theorem joined_two (a b : ByteArray) : (Crc.joined [a, b]).length = a.size + b.size := by
  simp [Crc.joined]
theorem SealLong_pure (a : Int) (h0 : 0 ≤ a) : affluxlaw05_SealLong.f 1000 a = some true := by
  unfold affluxlaw05_SealLong.f
  obtain ⟨m, hm, hm12⟩ : ∃ m : Nat, Int.tmod a 12 = m ∧ m < 12 := ⟨(a % 12).toNat, by rw [Int.tmod_eq_emod_of_nonneg h0]; omega, by omega⟩
  rw [hm, if_pos (by omega), wrap64_id (m : Int) (by omega) (by omega), wrap64_id (65530 + (m : Int)) (by omega) (by omega), wrap64_id _ (by omega) (by omega), if_pos (by omega), if_pos (by omega), show (65530 + (m : Int) - 65530) = (m : Int) by omega, Int.toNat_natCast]
  obtain ⟨z1, hz1⟩ : ∃ z, z = strOfNums (List.replicate 65530 0) := ⟨_, rfl⟩
  obtain ⟨z2, hz2⟩ : ∃ z, z = strOfNums (List.replicate m 0) := ⟨_, rfl⟩
  have hs1 : z1.size = 65530 := by rw [hz1, nums_size, List.length_replicate]
  have hs2 : z2.size = m := by rw [hz2, nums_size, List.length_replicate]
  rw [← hz1, ← hz2]
  clear hz1 hz2
  have hz : (Crc.joined [z1, z2]).length = 65530 + m := by rw [joined_two, hs1, hs2]
  have hl : [z1, z2].length = 2 := rfl
  by_cases hb : 65536 < 65530 + m
  · rw [PA.frame_no _ (by rw [hz]; exact hb) (by omega) 1000 (by omega), Option.bind_some]
    dsimp only
    rw [if_pos (by omega), if_pos (by first | decide | simp | kernel_rfl), if_neg (by decide), PA.awake_at _ (by omega)]
    rfl
  · rw [PA.frame_at _ (by rw [hz]; omega) (by omega) 1000 (by omega), Option.bind_some]
    dsimp only
    rw [if_neg (by omega), if_pos rfl, wrap64_id _ (by omega) (by omega), if_pos (by rw [Crc.mkB_size, Crc.frame_length, hz]; omega), PA.awake_at _ (by omega)]
    rfl
end Go.Proofs.YtlpjibmafpegeaaDoor.PL
