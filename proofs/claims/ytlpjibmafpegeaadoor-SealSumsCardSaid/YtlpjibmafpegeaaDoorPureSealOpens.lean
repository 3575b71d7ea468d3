/- The plain law of SealOpens. -/
import Derived.Test.YtlpjibmafpegeaaDoorPureOpen
import Derived.KernelRfl
namespace Go.Proofs.YtlpjibmafpegeaaDoor.PA
open Go.RowKit Go.Proofs.YtlpjibmafpegeaaDoorW.PrintWords Go.Proofs.YtlpjibmafpegeaaDoorW.PrintLast Go.Proofs.YtlpjibmafpegeaaDoorW.PrintMore
theorem awake_30 : affluxlaw05_awake.f 30 = some true := by kernel_rfl
theorem awake_at (k : Nat) (hk : 30 ≤ k) : affluxlaw05_awake.f k = some true := at_rounds affluxlaw05_awake.mono hk awake_30
theorem allK_length (k : Nat) : ∀ l : List UInt8, (Crc.allK k l).1.length ≤ k := by
  induction k with
  | zero => intro l; simp [Crc.allK]
  | succ k ih =>
    intro l
    unfold Crc.allK
    split
    · simp
    · split
      · simp only [List.length_cons]; have := ih (l.drop (Crc.openL l).2.1); omega
      · simp
theorem allB_length (s : ByteArray) : (allB s).1.length ≤ s.size := by
  unfold allB Crc.allL
  rw [List.length_map]
  exact allK_length _ _
theorem SealOpens_pure (s : ByteArray) : affluxlaw05_SealOpens.f 1600 s = some true := by
  unfold affluxlaw05_SealOpens.f
  by_cases h : 1500 < s.size
  · rw [if_pos (by omega), awake_at _ (by omega)]; rfl
  · have hl := allB_length s
    rw [if_neg (by omega), open_more _ (by omega) s (by omega), ref_open_at s (by omega), all_at s (by omega) _ (by omega), ref_all_at s (by omega) _ (by omega)]
    simp only [Option.bind_some, if_true]
    rw [same_at _ (by omega) _ (by omega)]
    simp only [Option.bind_some, if_true]
    rw [awake_at _ (by omega)]
    rfl
end Go.Proofs.YtlpjibmafpegeaaDoor.PA
