/- What the printed Frame, Open and All come to: lists of bytes. -/
import Derived.Test.YtlpjibmafpegeaaDoorPureR
import Derived.Test.YtlpjibmafpegeaaDoorPAx1
import Derived.Test.YtlpjibmafpegeaaDoorPAx3
import Derived.Test.YtlpjibmafpegeaaDoorPAx4
namespace Go.Proofs.YtlpjibmafpegeaaDoor.PA
open Go.RowKit Go.Proofs.YtlpjibmafpegeaaDoorW.PrintWords Go.Proofs.YtlpjibmafpegeaaDoorW.PrintLast Go.Proofs.YtlpjibmafpegeaaDoorW.PrintMore
open Go.Proofs.YtlpjibmafpegeaaDoor.PR (wrap64_id wrap64_nat ends_at length_at)
theorem size_list (s : ByteArray) : s.data.toList.length = s.size := rfl
theorem ext_mkB (s : ByteArray) (a b : Nat) : s.extract a b = Crc.mkB ((s.data.toList.take b).drop a) := by
  apply ByteArray.ext
  rw [ByteArray.data_extract]
  apply Array.ext'
  rw [Array.toList_extract, List.extract_eq_take_drop]
  show List.take (b - a) (List.drop a s.data.toList) = List.drop a (List.take b s.data.toList)
  rw [List.drop_take]
theorem toList_mkB (l : List UInt8) : (Crc.mkB l).toList = l := by rw [ByteArray.toList_eq]; rfl
theorem bt_list (s : ByteArray) (i : Nat) : bt s (i : Int) = ((s.data.toList.getD i 0).toNat : Int) := by
  unfold bt
  by_cases h : i < s.size
  · rw [dif_pos (by simpa using h)]
    have hl : i < s.data.toList.length := h
    have : s.data.toList.getD i 0 = s[i] := by
      rw [List.getD_eq_getElem?_getD, List.getElem?_eq_getElem hl]; rfl
    rw [this]; rfl
  · rw [dif_neg (by simpa using h), List.getD_eq_getElem?_getD, List.getElem?_eq_none (by rw [size_list]; omega)]; rfl
theorem told_at (s : ByteArray) (h : 4 ≤ s.size) : seal_told.f s = some ((Crc.tell s.data.toList : Nat) : Int) := by
  unfold seal_told.f Crc.tell
  rw [if_pos h]
  have h0 := bt_list s 0
  have h1 := bt_list s 1
  have h2 := bt_list s 2
  have h3 := bt_list s 3
  rw [show bt s 0 = _ from h0, show bt s 1 = _ from h1, show bt s 2 = _ from h2, show bt s 3 = _ from h3]
  congr 1
theorem of_one (s : ByteArray) (h : s.size ≤ 9223372036854775807) : seal_Of.f [s] = some (Crc.bv (Crc.sumL s.data.toList)) := by
  unfold seal_Of.f
  rw [if_pos (by simpa using h)]
  rfl
/-- What is framed at the beginning, as texts and numbers. -/
def openB (s : ByteArray) : ByteArray × Int × Int := (Crc.mkB (Crc.openL s.data.toList).1, ((Crc.openL s.data.toList).2.1 : Int), ((Crc.openL s.data.toList).2.2 : Int))
theorem openB_of {s : ByteArray} {d : List UInt8} {n y : Nat} (h : Crc.openL s.data.toList = (d, n, y)) : openB s = (Crc.mkB d, (n : Int), (y : Int)) := by unfold openB; rw [h]
theorem open_at (s : ByteArray) (hs : s.size ≤ 4611686018427387904) : seal_Open.f 9 s = some (openB s) := by
  have hL := size_list s
  unfold seal_Open.f
  by_cases h1 : s.size < 4
  · rw [if_pos (by omega), openB_of (Crc.openL_short _ (by omega))]; rfl
  rw [if_neg (by omega), told_at s (by omega), Option.bind_some]
  by_cases h2 : 65536 < Crc.tell s.data.toList
  · rw [if_pos (by omega), openB_of (Crc.openL_big _ (by omega) h2)]; rfl
  rw [if_neg (by omega), wrap64_id (4 + ((Crc.tell s.data.toList : Nat) : Int)) (by omega) (by omega), wrap64_id _ (by omega) (by omega)]
  by_cases h3 : s.size < Crc.tell s.data.toList + 12
  · rw [if_pos (by omega), openB_of (Crc.openL_cut _ (by omega) (by omega) (by omega))]; rfl
  rw [if_neg (by omega), if_pos (by omega), if_pos (by omega)]
  have e1 : (4 + ((Crc.tell s.data.toList : Nat) : Int)).toNat = 4 + Crc.tell s.data.toList := by omega
  have e2 : (4 + ((Crc.tell s.data.toList : Nat) : Int) + 8).toNat = Crc.tell s.data.toList + 12 := by omega
  have e3 : (s.data.toList.take (4 + Crc.tell s.data.toList)).drop 4 = (s.data.toList.drop 4).take (Crc.tell s.data.toList) := by rw [List.drop_take, Nat.add_sub_cancel_left]
  rw [e1, e2, ext_mkB, ext_mkB, ext_mkB, List.drop_zero, of_one _ (by rw [Crc.mkB_size]; simp; omega), Option.bind_some, ends_at, Option.bind_some, if_pos (by omega), if_pos (by omega), toList_mkB, toList_mkB, Crc.mkB_list, e3]
  have hfi := Crc.frame_iff s.data.toList (by omega) (by omega)
  by_cases h5 : Crc.frame ((s.data.toList.drop 4).take (Crc.tell s.data.toList)) = s.data.toList.take (Crc.tell s.data.toList + 12)
  · rw [if_pos (hfi.1 h5), if_pos (by omega), openB_of (Crc.openL_good _ (by omega) (by omega) h5)]
    congr 3
    omega
  · rw [if_neg (fun h => h5 (hfi.2 h)), openB_of (Crc.openL_bad _ (by omega) (by omega) h5)]; rfl
theorem ref_open_at (s : ByteArray) (hs : s.size ≤ 4611686018427387904) : affluxref05_Open.f s = some (openB s) := by
  have hL := size_list s
  unfold affluxref05_Open.f
  by_cases h1 : s.size < 4
  · rw [if_pos (by omega), openB_of (Crc.openL_short _ (by omega))]; rfl
  rw [if_neg (by omega), if_pos (by omega), if_pos (by omega), if_pos (by omega), if_pos (by omega)]
  have hb0 := bt_range s 0
  have hb1 := bt_range s 1
  have hb2 := bt_range s 2
  have hb3 := bt_range s 3
  have ht : 16777216 * bt s 0 + 65536 * bt s 1 + 256 * bt s 2 + bt s 3 = ((Crc.tell s.data.toList : Nat) : Int) := by
    have := told_at s (by omega)
    unfold seal_told.f at this
    rw [if_pos (by omega)] at this
    exact Option.some.inj this
  generalize bt s 0 = b0 at *
  generalize bt s 1 = b1 at *
  generalize bt s 2 = b2 at *
  generalize bt s 3 = b3 at *
  rw [wrap64_id b0 (by omega) (by omega), wrap64_id b1 (by omega) (by omega), wrap64_id b2 (by omega) (by omega), wrap64_id b3 (by omega) (by omega), wrap64_id (16777216 * b0) (by omega) (by omega), wrap64_id (65536 * b1) (by omega) (by omega), wrap64_id (256 * b2) (by omega) (by omega), wrap64_id (16777216 * b0 + 65536 * b1) (by omega) (by omega), wrap64_id (16777216 * b0 + 65536 * b1 + 256 * b2) (by omega) (by omega), wrap64_id (16777216 * b0 + 65536 * b1 + 256 * b2 + b3) (by omega) (by omega), ht]
  clear ht hb0 hb1 hb2 hb3
  by_cases h2 : 65536 < Crc.tell s.data.toList
  · rw [if_pos (by omega), openB_of (Crc.openL_big _ (by omega) h2)]; rfl
  rw [if_neg (by omega), wrap64_id (((Crc.tell s.data.toList : Nat) : Int) + 12) (by omega) (by omega), wrap64_id (4 + ((Crc.tell s.data.toList : Nat) : Int)) (by omega) (by omega)]
  by_cases h3 : s.size < Crc.tell s.data.toList + 12
  · rw [if_pos (by omega), openB_of (Crc.openL_cut _ (by omega) (by omega) (by omega))]; rfl
  rw [if_neg (by omega), if_pos (by omega), if_pos (by omega)]
  have e1 : (4 + ((Crc.tell s.data.toList : Nat) : Int)).toNat = 4 + Crc.tell s.data.toList := by omega
  have e2 : (((Crc.tell s.data.toList : Nat) : Int) + 12).toNat = Crc.tell s.data.toList + 12 := by omega
  have e3 : (s.data.toList.take (4 + Crc.tell s.data.toList)).drop 4 = (s.data.toList.drop 4).take (Crc.tell s.data.toList) := by rw [List.drop_take, Nat.add_sub_cancel_left]
  rw [e1, e2, ext_mkB, ext_mkB, e3, List.drop_zero]
  unfold affluxref05_Frame.f
  rw [if_pos (by rw [Crc.mkB_size]; simp; omega), Option.bind_some, if_pos (by omega), if_pos (by omega), toList_mkB, toList_mkB, Crc.mkB_list]
  by_cases h5 : Crc.frame ((s.data.toList.drop 4).take (Crc.tell s.data.toList)) = s.data.toList.take (Crc.tell s.data.toList + 12)
  · rw [if_pos h5, openB_of (Crc.openL_good _ (by omega) (by omega) h5)]
    rfl
  · rw [if_neg h5, openB_of (Crc.openL_bad _ (by omega) (by omega) h5)]; rfl
/-- What is framed, one behind the other. -/
def allB (s : ByteArray) : List ByteArray × Int × Int := ((Crc.allL s.data.toList).1.map Crc.mkB, ((Crc.allL s.data.toList).2.1 : Int), ((Crc.allL s.data.toList).2.2 : Int))
theorem open_more (k : Nat) (hk : 9 ≤ k) (s : ByteArray) (hs : s.size ≤ 4611686018427387904) : seal_Open.f k s = some (openB s) := at_rounds (fun k => seal_Open.mono s k) hk (open_at s hs)
theorem drop_ext (s : ByteArray) (i : Nat) : s.extract i s.size = Crc.mkB (s.data.toList.drop i) := by
  rw [ext_mkB, List.take_of_length_le (by rw [size_list]; omega)]
theorem all_l0 (s : ByteArray) (hs : s.size ≤ 4611686018427387904) (n : Nat) : ∀ (i : Nat) (acc : List ByteArray) (k : Nat), i ≤ s.size → s.size - i ≤ n → n + 10 ≤ k → acc.length + n < 8796093022208 →
    seal_All.l0 k s acc (i : Int) = some (acc ++ (Crc.allL (s.data.toList.drop i)).1.map Crc.mkB, ((i + (Crc.allL (s.data.toList.drop i)).2.1 : Nat) : Int), ((Crc.allL (s.data.toList.drop i)).2.2 : Int)) := by
  induction n with
  | zero =>
    intro i acc k hi hn hk ha
    obtain ⟨k, rfl⟩ : ∃ m, k = m + 1 := ⟨k - 1, by omega⟩
    simp only [seal_All.l0]
    rw [if_neg (by omega), List.drop_eq_nil_of_le (by rw [size_list]; omega), Crc.allL_nil]
    simp
  | succ n ih =>
    intro i acc k hi hn hk ha
    obtain ⟨k, rfl⟩ : ∃ m, k = m + 1 := ⟨k - 1, by omega⟩
    simp only [seal_All.l0]
    by_cases hlt : i < s.size
    · have hdl : (s.data.toList.drop i).length = s.size - i := by rw [List.length_drop, size_list]
      have hne : s.data.toList.drop i ≠ [] := fun e => by rw [e] at hdl; simp at hdl; omega
      rw [if_pos (by omega), if_pos (by omega), if_pos (by omega), Int.toNat_natCast, drop_ext, open_more k (by omega) _ (by rw [Crc.mkB_size, hdl]; omega), Option.bind_some]
      unfold openB
      rw [Crc.mkB_list]
      dsimp only
      by_cases ho : (Crc.openL (s.data.toList.drop i)).2.2 = 0
      · have hp := Crc.openL_pos _ ho
        have hle := Crc.openL_le (s.data.toList.drop i)
        rw [hdl] at hle
        rw [if_pos (by omega), if_pos (by omega), wrap64_id _ (by omega) (by omega), show (i : Int) + ((Crc.openL (s.data.toList.drop i)).2.1 : Int) = ((i + (Crc.openL (s.data.toList.drop i)).2.1 : Nat) : Int) by omega,
          ih (i + (Crc.openL (s.data.toList.drop i)).2.1) _ k (by omega) (by omega) (by omega) (by simp; omega), Crc.allL_step _ hne ho, List.drop_drop]
        simp [Nat.add_assoc]
      · rw [if_neg (by omega), Crc.allL_end _ hne ho]
        simp
    · rw [if_neg (by omega), List.drop_eq_nil_of_le (by rw [size_list]; omega), Crc.allL_nil]
      simp
theorem all_at (s : ByteArray) (hs : s.size ≤ 1073741824) (k : Nat) (hk : s.size + 10 ≤ k) : seal_All.f k s = some (allB s) := by
  unfold seal_All.f allB
  have := all_l0 s (by omega) s.size 0 [] k (by omega) (by omega) hk (by simp; omega)
  rw [show (0 : Int) = ((0 : Nat) : Int) from rfl, this]
  simp
theorem ref_all_l0 (s : ByteArray) (hs : s.size ≤ 4611686018427387904) (n : Nat) : ∀ (i : Nat) (acc : List ByteArray) (k : Nat), i ≤ s.size → s.size - i ≤ n → n + 10 ≤ k → acc.length + n < 8796093022208 →
    affluxref05_All.l0 k s acc (i : Int) = some (acc ++ (Crc.allL (s.data.toList.drop i)).1.map Crc.mkB, ((i + (Crc.allL (s.data.toList.drop i)).2.1 : Nat) : Int), ((Crc.allL (s.data.toList.drop i)).2.2 : Int)) := by
  induction n with
  | zero =>
    intro i acc k hi hn hk ha
    obtain ⟨k, rfl⟩ : ∃ m, k = m + 1 := ⟨k - 1, by omega⟩
    simp only [affluxref05_All.l0]
    rw [if_neg (by omega), List.drop_eq_nil_of_le (by rw [size_list]; omega), Crc.allL_nil]
    simp
  | succ n ih =>
    intro i acc k hi hn hk ha
    obtain ⟨k, rfl⟩ : ∃ m, k = m + 1 := ⟨k - 1, by omega⟩
    simp only [affluxref05_All.l0]
    by_cases hlt : i < s.size
    · have hdl : (s.data.toList.drop i).length = s.size - i := by rw [List.length_drop, size_list]
      have hne : s.data.toList.drop i ≠ [] := fun e => by rw [e] at hdl; simp at hdl; omega
      rw [if_pos (by omega), if_pos (by omega), if_pos (by omega), Int.toNat_natCast, drop_ext, ref_open_at _ (by rw [Crc.mkB_size, hdl]; omega), Option.bind_some]
      unfold openB
      rw [Crc.mkB_list]
      dsimp only
      by_cases ho : (Crc.openL (s.data.toList.drop i)).2.2 = 0
      · have hp := Crc.openL_pos _ ho
        have hle := Crc.openL_le (s.data.toList.drop i)
        rw [hdl] at hle
        rw [if_pos (by omega), if_pos (by omega), wrap64_id _ (by omega) (by omega), show (i : Int) + ((Crc.openL (s.data.toList.drop i)).2.1 : Int) = ((i + (Crc.openL (s.data.toList.drop i)).2.1 : Nat) : Int) by omega,
          ih (i + (Crc.openL (s.data.toList.drop i)).2.1) _ k (by omega) (by omega) (by omega) (by simp; omega), Crc.allL_step _ hne ho, List.drop_drop]
        simp [Nat.add_assoc]
      · rw [if_neg (by omega), Crc.allL_end _ hne ho]
        simp
    · rw [if_neg (by omega), List.drop_eq_nil_of_le (by rw [size_list]; omega), Crc.allL_nil]
      simp
theorem ref_all_at (s : ByteArray) (hs : s.size ≤ 1073741824) (k : Nat) (hk : s.size + 10 ≤ k) : affluxref05_All.f k s = some (allB s) := by
  unfold affluxref05_All.f allB
  have := ref_all_l0 s (by omega) s.size 0 [] k (by omega) (by omega) hk (by simp; omega)
  rw [show (0 : Int) = ((0 : Nat) : Int) from rfl, this]
  simp
theorem same_l0 (l : List ByteArray) (hl : l.length ≤ 4611686018427387904) (n : Nat) : ∀ (i k : Nat), i + n = l.length → n + 1 ≤ k → PR.affluxref05_Same.l0 k l l (i : Int) = some true := by
  induction n with
  | zero =>
    intro i k hi hk
    obtain ⟨k, rfl⟩ : ∃ m, k = m + 1 := ⟨k - 1, by omega⟩
    simp only [PR.affluxref05_Same.l0]
    rw [if_neg (by omega)]
  | succ n ih =>
    intro i k hi hk
    obtain ⟨k, rfl⟩ : ∃ m, k = m + 1 := ⟨k - 1, by omega⟩
    simp only [PR.affluxref05_Same.l0]
    rw [if_pos (by omega), if_pos (by omega), if_pos (by omega), if_pos trivial, wrap64_id _ (by omega) (by omega), show (i : Int) + 1 = ((i + 1 : Nat) : Int) by omega, ih (i + 1) k (by omega) (by omega)]
theorem same_at (l : List ByteArray) (hl : l.length ≤ 4611686018427387904) (k : Nat) (hk : l.length + 1 ≤ k) : PR.affluxref05_Same.f k l l = some true := by
  unfold PR.affluxref05_Same.f
  rw [if_pos rfl, show (0 : Int) = ((0 : Nat) : Int) from rfl, same_l0 l hl l.length 0 k (by omega) hk]
end Go.Proofs.YtlpjibmafpegeaaDoor.PA
