/- strings.Join, off the shelf, in the printed contracts' form. -/
import Derived.Test.YtcbbdkennmopdaaGreatDoorTShelf
import Derived.Test.YtcbbdkennmopdaaGreatDoorTWWords
import Derived.Test.YtcbbdkennmopdaaGreatDoorTWLast
import Derived.WalkKit
namespace Go.Proofs.YtcbbdkennmopdaaGreatDoor
open Go.RowKit Go.Proofs.YtcbbdkennmopdaaGreatDoorW.PrintWords
/-- Join, in the printed contracts' form. -/
def strings_Join.f (l0 : List ByteArray) (a1 : ByteArray) : Option ByteArray := if (Lib.join (l0.map (·.data.toList)) a1.data.toList).length ≤ 140737488355328 ∧ l0.length ≤ 140737488355328 then some ⟨(Lib.join (l0.map (·.data.toList)) a1.data.toList).toArray⟩ else none
theorem join_cell_plain {w : World} {a : Addr} {v : Value} (h : w.cell? a = some v) : a = ⟨a.block, a.off, none⟩ ∧ a.block < w.heap.size := by
  unfold World.cell? at h
  split at h
  · rename_i c _ _ hb
    split at h
    · cases h
    · rename_i hs
      refine ⟨?_, ?_⟩
      · cases a with
        | mk b o s => cases s with
          | none => rfl
          | some _ => simp at hs
      · exact (Array.getElem?_eq_some_iff.1 hb).1
  · cases h
theorem strings_Join.calls (A0 : Option Addr) (c0 : Nat) (l0 : List ByteArray) (a1 : ByteArray) (r : ByteArray) (w : World) (hr0 : Kd.C Kd.string w A0 l0.length l0) (hc0 : l0.length ≤ c0) (h : strings_Join.f l0 a1 = some r) :
    Calls Tryz.prog 50 #[.slice A0 l0.length c0, .string a1] w fun e w' => e = .returned (.string r) ∧ Below w.heap.size w w' := by
  unfold strings_Join.f at h
  split at h
  · rename_i hb
    obtain rfl := Option.some.inj h
    by_cases h0 : l0.length = 0
    · obtain rfl := List.eq_nil_of_length_eq_zero h0
      exact (Tryz.strings_Join_none A0 c0 a1 w).mono fun e w' ⟨he, hw⟩ => ⟨he, hw ▸ Below.refl _ _⟩
    · obtain ⟨ad, rfl, hcell0⟩ := Kd.at_string hr0 0 (by omega) (by omega)
      obtain ⟨hp, hlt⟩ := join_cell_plain hcell0
      have hadd : ad.add (0 : Int).toNat = ad := by simp [Addr.add]
      rw [hadd] at hp hlt
      generalize ad.block = bk at hp hlt
      generalize ad.off = o at hp
      subst hp
      refine Tryz.strings_Join bk o c0 l0 a1 w (fun j x hj => ?_) hlt hb.2 hc0 hb.1
      have hjl : j < l0.length := (List.getElem?_eq_some_iff.1 hj).1
      obtain ⟨ad, e0, hcell⟩ := Kd.at_string hr0 (j : Int) (by omega) (by omega)
      cases e0
      simp only [Int.toNat_natCast] at hcell
      have hx : rdOf ByteArray.empty l0 (j : Int) = x := by simp [rdOf, List.getD, hj]
      rw [hx, add_at] at hcell
      exact hcell
  · cases h
end Go.Proofs.YtcbbdkennmopdaaGreatDoor
