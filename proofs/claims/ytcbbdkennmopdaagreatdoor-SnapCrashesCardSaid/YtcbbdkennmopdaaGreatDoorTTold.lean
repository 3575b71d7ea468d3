/- told: how many bytes four bytes tell; in the printed contracts' form. -/
import Derived.Test.YtcbbdkennmopdaaGreatDoorProg
import Derived.Test.YtcbbdkennmopdaaGreatDoorTWWords
import Derived.Test.YtcbbdkennmopdaaGreatDoorTWLast
import Derived.WalkKit
import Derived.KernelRfl
import Derived.BigQuiet
import Derived.Deep.QuietTactic
namespace Go.Proofs.YtcbbdkennmopdaaGreatDoor
open Go.RowKit Go.Proofs.YtcbbdkennmopdaaGreatDoorW.PrintWords
def seal_told.f (a0 : ByteArray) : Option Int := if 4 ≤ a0.size then some (16777216 * bt a0 0 + 65536 * bt a0 1 + 256 * bt a0 2 + bt a0 3) else none
theorem below_drewN' (w : World) (n : Nat) : Below w.heap.size w (w.drewN n) := pw_below_drewN (Below.refl _ _) n
theorem i64_small (n : Int) (h0 : 0 ≤ n) (h1 : n < 2 ^ 40) : IntKind.i64.wrap n = n := by rw [IntKind.wrap_i64]; omega
theorem w64_small (n : Int) (h0 : 0 ≤ n) (h1 : n < 2 ^ 40) : wrap64 n = n := by unfold wrap64; omega
theorem told_bits (a b c d : UInt8) : bits .or .i64 (bits .or .i64 (bits .or .i64 (wrap64 (wrap64 (a.toNat : Int) * 16777216)) (wrap64 (wrap64 (b.toNat : Int) * 65536))) (wrap64 (wrap64 (c.toNat : Int) * 256))) (wrap64 (d.toNat : Int)) = 16777216 * (a.toNat : Int) + 65536 * (b.toNat : Int) + 256 * (c.toNat : Int) + (d.toNat : Int) := by
  have ha := a.toNat_lt
  have hb := b.toNat_lt
  have hc := c.toNat_lt
  have hd := d.toNat_lt
  generalize a.toNat = a at *
  generalize b.toNat = b at *
  generalize c.toNat = c at *
  generalize d.toNat = d at *
  rw [w64_small (a : Int) (by omega) (by omega), w64_small (b : Int) (by omega) (by omega), w64_small (c : Int) (by omega) (by omega), w64_small (d : Int) (by omega) (by omega), w64_small _ (by omega) (by omega), w64_small _ (by omega) (by omega), w64_small _ (by omega) (by omega)]
  rw [bits_join .i64 40 (by decide) i64_small 24 ((a : Int) * 16777216) ((b : Int) * 65536) (by omega) (by omega) (by omega) (by omega) (by omega) (by omega)]
  rw [bits_join .i64 40 (by decide) i64_small 16 ((a : Int) * 16777216 + (b : Int) * 65536) ((c : Int) * 256) (by omega) (by omega) (by omega) (by omega) (by omega) (by omega)]
  rw [bits_join .i64 40 (by decide) i64_small 8 ((a : Int) * 16777216 + (b : Int) * 65536 + (c : Int) * 256) (d : Int) (by omega) (by omega) (by omega) (by omega) (by omega) (by omega)]
  omega
theorem seal_told.calls (a0 : ByteArray) (r : Int) (w : World) (h : seal_told.f a0 = some r) :
    Calls Tryz.prog 150 #[.string a0] w fun e w' => e = .returned (.int .i64 r) ∧ Below w.heap.size w w' := by
  unfold seal_told.f at h
  split at h
  · rename_i h4
    have HR := Aside0.mk (Option.some.inj h)
    clear h
    have h00 : 0 < a0.size := by omega
    have h01 : 1 < a0.size := by omega
    have h02 : 2 < a0.size := by omega
    have h03 : 3 < a0.size := by omega
    have HV : Aside0 (r = bits .or .i64 (bits .or .i64 (bits .or .i64 (wrap64 (wrap64 ((a0[0]'h00).toNat : Int) * 16777216)) (wrap64 (wrap64 ((a0[1]'h01).toNat : Int) * 65536))) (wrap64 (wrap64 ((a0[2]'h02).toNat : Int) * 256))) (wrap64 ((a0[3]'h03).toNat : Int))) :=
      ⟨by rw [told_bits, ← HR.out, ← bt_at a0 0 h00, ← bt_at a0 1 h01, ← bt_at a0 2 h02, ← bt_at a0 3 h03]; rfl⟩
    have i0 : (0 : Int) < (a0.size : Int) := by omega
    have i1 : (1 : Int) < (a0.size : Int) := by omega
    have i2 : (2 : Int) < (a0.size : Int) := by omega
    have i3 : (3 : Int) < (a0.size : Int) := by omega
    go_enter Tryz.func150, Tryz.ntmps150
    go_wp2
    go_quiet (fail)
    go_wp2
    go_ret
    refine ⟨?_, below_drewN' _ _⟩
    rw [HV.out]
    rfl
  · cases h
end Go.Proofs.YtcbbdkennmopdaaGreatDoor
