/- The reference's Frame, in closed form. -/
import Derived.Test.YtcbbdkennmopdaaGreatDoorTPureR
import Derived.WalkKit
namespace Go.Proofs.YtcbbdkennmopdaaGreatDoor
open Go.RowKit Go.Proofs.YtcbbdkennmopdaaGreatDoorW.PrintWords Go.Proofs.YtcbbdkennmopdaaGreatDoorW.PrintLast Go.Proofs.YtcbbdkennmopdaaGreatDoorW.PrintMore
def affluxref05_Frame.f (a0 : ByteArray) : Option ByteArray := if a0.size ≤ 281474976710656 then some (Crc.mkB (Crc.frame a0.data.toList)) else none
theorem head_nums (n : Nat) : strOfNums [(n : Int) / 16777216 % 256, (n : Int) / 65536 % 256, (n : Int) / 256 % 256, (n : Int) % 256] = Crc.mkB (Crc.be4 n) := Option.some.inj (PR.length_at n)
theorem affluxref05_Frame.calls (a0 : ByteArray) (r : ByteArray) (w : World) (h : affluxref05_Frame.f a0 = some r) :
    Calls Tryz.prog 98 #[.string a0] w fun e w' => e = .returned (.string r) ∧ Below w.heap.size w w' := by
  have hsz : a0.size ≤ 281474976710656 := by
    unfold affluxref05_Frame.f at h
    split at h
    · assumption
    · cases h
  have HR : Aside0 (r = Crc.mkB (Crc.frame a0.data.toList)) := ⟨by unfold affluxref05_Frame.f at h; rw [if_pos hsz] at h; exact (Option.some.inj h).symm⟩
  clear h
  obtain ⟨hd, hhd⟩ : ∃ s, s = Crc.mkB (Crc.be4 a0.size) := ⟨_, rfl⟩
  have HH := Aside0.mk hhd
  have hhs : hd.size = 4 := by rw [hhd]; rfl
  have HS := Aside0.mk hhs
  have hle : hd.size ≤ 4 := by omega
  clear hhd hhs
  obtain ⟨z, hz⟩ : ∃ z, z = Crc.bv (Crc.sumL (hd ++ a0).data.toList) := ⟨_, rfl⟩
  have HZ := Aside0.mk hz
  clear hz
  obtain ⟨el, hel⟩ : ∃ s, s = Crc.mkB (Crc.le8 (Crc.sumL (hd ++ a0).data.toList)) := ⟨_, rfl⟩
  have HE := Aside0.mk hel
  have hle2 : el.size ≤ 8 := by rw [hel]; exact Nat.le_of_eq rfl
  clear hel
  have HA : Aside0 ((hd ++ a0).size ≤ 9223372036854775806) := ⟨by rw [ByteArray.size_append]; omega⟩
  go_enter Tryz.func98, Tryz.ntmps98
  go_wp2_with (first | ((with_reducible refine gate_dst (N := 21) rfl ?_); refine Kd.R_lit (Kd.int .u8) w.heap.size 5 ?hg (w0 := w) (N := 21) ?hd (xs := [(a0.size : Int) / 16777216 % 256, (a0.size : Int) / 65536 % 256, (a0.size : Int) / 256 % 256, (a0.size : Int) % 256]) (inner := [.int .u8 ((a0.size : Int) / 16777216 % 256), .int .u8 ((a0.size : Int) / 65536 % 256), .int .u8 ((a0.size : Int) / 256 % 256), .int .u8 ((a0.size : Int) % 256)]) (ok := fun _ => True) (okp := fun _ => True) ?hr ?hp (fun _ hk => hk) trivial (Below.refl _ _) (Nat.le_refl _) (by simp) ?_; (case hd => rfl); (case hg => rfl); (case hr => first | (go_simp; done) | (go_simp; rfl)); (case hp => exact (Reps.one rfl (Reps.one rfl (Reps.one rfl (Reps.one rfl (Reps.none _ _)))))); intro v1 w1 ho hb hg_ hnew_; clear hg_ hnew_; have hcv := own_string (P := Tryz.prog) Tryz.underlying25 Tryz.underlying5 Tryz.underlying9 (Kd.own_of_R ho); rw [head_nums, ← HH.out] at hcv; have HB := Aside0.mk hb; clear ho hb) | fail)
  refine (PR.affluxref05_Sum.calls (10 * (hd ++ a0).size + 1) (hd ++ a0) z _ (by rw [PR.sum_list _ HA.out, HZ.out])).mono ?_
  rintro e w2 ⟨rfl, ⟨n2, rfl⟩⟩
  have HB2 := Aside0.mk (pw_below_drewN HB.out n2)
  clear HB
  go_wp2_with fail
  refine (PR.affluxref05_Eight.calls 9 z el _ (by rw [HZ.out, PR.eight_at, HE.out])).mono ?_
  rintro e w3 ⟨rfl, hb3⟩
  have HB3 := Aside0.mk (below_step HB2.out hb3)
  clear HB2 hb3
  go_wp2_with fail
  go_ret
  refine ⟨?_, HB3.out⟩
  have hfin : r = hd ++ a0 ++ el := by
    rw [HR.out, HE.out, HH.out, Crc.append_mkB (Crc.mkB (Crc.be4 a0.size)) a0, Crc.mkB_append]
    rfl
  rw [hfin]
  rfl
end Go.Proofs.YtcbbdkennmopdaaGreatDoor
