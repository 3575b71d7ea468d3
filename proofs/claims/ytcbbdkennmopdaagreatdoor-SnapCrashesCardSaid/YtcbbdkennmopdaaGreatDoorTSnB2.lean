/- Texts of this claim, joined: PureFrame, SnMark, SnBld, SnFiles, SnSaveP, SnFile, SnNeed, SnPrint, SnName, SnLoad, SnOth, SnCls, SnCls2, SnAll, SnSteps, SnSave, SnCalm, SnAwake. -/
import Derived.Test.YtcbbdkennmopdaaGreatDoorTSnB1
import Derived.Test.YtcbbdkennmopdaaGreatDoorTShelf
import Derived.Test.YtcbbdkennmopdaaGreatDoorTPAx2
import Derived.Laws.Slices
import Derived.Test.YtcbbdkennmopdaaGreatDoorTPRx1
set_option linter.unusedSimpArgs false
set_option linter.unusedVariables false
/- What the printed Frame comes to: the frame of all texts, one behind the other, or none. -/
namespace Go.Proofs.YtcbbdkennmopdaaGreatDoor.PA
open Go.RowKit Go.Proofs.YtcbbdkennmopdaaGreatDoorW.PrintWords Go.Proofs.YtcbbdkennmopdaaGreatDoorW.PrintLast Go.Proofs.YtcbbdkennmopdaaGreatDoorW.PrintMore
open Go.Proofs.YtcbbdkennmopdaaGreatDoor.PR (wrap64_id wrap64_nat ends_at length_at)
theorem join_flat (xs : List (List UInt8)) : Lib.join xs [] = xs.flatten := by
  cases xs with
  | nil => rfl
  | cons x r => rw [Lib.join_cons]; simp [Lib.joinTail]
theorem join_joined (l : List ByteArray) : Lib.join (l.map (·.data.toList)) (⟨#[]⟩ : ByteArray).data.toList = Crc.joined l := by
  rw [show (⟨#[]⟩ : ByteArray).data.toList = [] from rfl, join_flat]
  unfold Crc.joined
  rw [List.flatMap_def]
theorem joined_snoc (l : List ByteArray) (s : ByteArray) : Crc.joined (l ++ [s]) = Crc.joined l ++ s.data.toList := by simp [Crc.joined]
theorem joined_one (s : ByteArray) : Crc.joined [s] = s.data.toList := by simp [Crc.joined]
theorem joined_append (l m : List ByteArray) : Crc.joined (l ++ m) = Crc.joined l ++ Crc.joined m := by simp [Crc.joined]
theorem rdOf_at (l : List ByteArray) (i : Nat) (h : i < l.length) : rdOf ByteArray.empty l (i : Int) = l[i] := by simp [rdOf, List.getD, h]
theorem joined_take (l : List ByteArray) (i : Nat) (h : i < l.length) : (Crc.joined (l.take (i + 1))).length = (Crc.joined (l.take i)).length + (l[i]).size := by
  rw [List.take_succ_eq_append_getElem h, joined_snoc, List.length_append, size_list]
theorem joined_take_le (l : List ByteArray) (i : Nat) : (Crc.joined (l.take i)).length ≤ (Crc.joined l).length := by
  conv => rhs; rw [← List.take_append_drop i l]
  rw [joined_append, List.length_append]
  omega
theorem frame_end (l : List ByteArray) (k : Nat) (hk : 9 ≤ k) (ht : (Crc.joined l).length ≤ 65536) (hl : l.length ≤ 140737488355328) :
    ((PR.seal_length.f ((Crc.joined l).length : Int)).bind fun t102 => ((strings_Join.f l (⟨#[]⟩ : ByteArray)).bind fun t103 => (if t102.size + t103.size ≤ 9223372036854775807 then ((seal_Of.f (([t102 ++ t103] : List ByteArray))).bind fun t107 => ((PR.seal_ends.f k t107 8).bind fun t108 => (if (t102 ++ t103).size + t108.size ≤ 9223372036854775807 then (some ((t102 ++ t103) ++ t108, true)) else (none)))) else (none)))) = some (Crc.mkB (Crc.frame (Crc.joined l)), true) := by
  have hj : strings_Join.f l (⟨#[]⟩ : ByteArray) = some (Crc.mkB (Crc.joined l)) := by
    unfold strings_Join.f
    rw [join_joined, if_pos ⟨by omega, hl⟩]
    rfl
  have hs1 : (Crc.mkB (Crc.be4 (Crc.joined l).length)).size = 4 := rfl
  have hs2 : (Crc.mkB (Crc.joined l)).size = (Crc.joined l).length := rfl
  rw [length_at, Option.bind_some, hj, Option.bind_some, if_pos (by omega), Crc.mkB_append, of_one _ (by rw [Crc.mkB_size, List.length_append, Crc.be4_length]; omega), Option.bind_some,
    at_rounds (fun k => PR.seal_ends.mono _ _ k) hk (ends_at _), Option.bind_some, if_pos (by rw [Crc.mkB_size, Crc.mkB_size, List.length_append, Crc.be4_length, Crc.le8_length]; omega), Crc.mkB_append]
  rfl
theorem frame_l0 (l : List ByteArray) (ht : (Crc.joined l).length ≤ 65536) (hl : l.length ≤ 140737488355328) (n : Nat) : ∀ i, i + n = l.length → ∀ k, n + 10 ≤ k →
    seal_Frame.l0 k l ((Crc.joined (l.take i)).length : Int) l (l.length : Int) (i : Int) = some (Crc.mkB (Crc.frame (Crc.joined l)), true) := by
  induction n with
  | zero =>
    intro i hi k hk
    obtain ⟨k, rfl⟩ : ∃ m, k = m + 1 := ⟨k - 1, by omega⟩
    simp only [seal_Frame.l0]
    rw [if_neg (by omega), List.take_of_length_le (by omega)]
    exact frame_end l k (by omega) ht hl
  | succ n ih =>
    intro i hi k hk
    obtain ⟨k, rfl⟩ : ∃ m, k = m + 1 := ⟨k - 1, by omega⟩
    have hlt : i < l.length := by omega
    have h1 := joined_take l i hlt
    have h2 := joined_take_le l (i + 1)
    simp only [seal_Frame.l0]
    rw [if_pos (by omega), if_pos (by omega), if_pos (by omega), rdOf_at l i hlt, wrap64_id (65536 - _) (by omega) (by omega), if_neg (by omega), wrap64_id _ (by omega) (by omega), wrap64_id _ (by omega) (by omega),
      show ((Crc.joined (l.take i)).length : Int) + ((l[i]).size : Int) = ((Crc.joined (l.take (i + 1))).length : Int) by omega, show (i : Int) + 1 = ((i + 1 : Nat) : Int) by omega]
    exact ih (i + 1) (by omega) k (by omega)
/-- Of at most 65536 bytes: their frame. -/
theorem frame_at (l : List ByteArray) (ht : (Crc.joined l).length ≤ 65536) (hl : l.length ≤ 140737488355328) (k : Nat) (hk : l.length + 10 ≤ k) : seal_Frame.f k l = some (Crc.mkB (Crc.frame (Crc.joined l)), true) := by
  unfold seal_Frame.f
  exact frame_l0 l ht hl l.length 0 (by omega) k hk
end Go.Proofs.YtcbbdkennmopdaaGreatDoor.PA
/- codec: Reader.Size and Read; snap: the number that a mark tells. -/
namespace Go.Proofs.YtcbbdkennmopdaaGreatDoor.PK
open Go.RowKit Go.Proofs.YtcbbdkennmopdaaGreatDoorW.PrintWords Go.Proofs.YtcbbdkennmopdaaGreatDoorW.PrintLast Go.Proofs.YtcbbdkennmopdaaGreatDoorW.PrintMore
open Go.Maps
/-- Size: a number of at most most, or nought and a bad reader. -/
def sizeR (l : List UInt8) (most : Nat) : Nat × List UInt8 × Bool := if (numR l).2.2 = true ∨ most < (numR l).1 then (0, (if (numR l).2.2 = true then (numR l).2.1 else []), true) else numR l
set_option maxHeartbeats 1000000 in
set_option maxRecDepth 100000 in
theorem rSize_calls (k : Nat) (l : List UInt8) (most : Nat) (w : World) (h : RdAt w k l false) (hm : most ≤ 4611686018427387904) (hv : (numR l).1 < 18446744073709551616) : Calls Tryz.prog 118 #[.pointer (some ⟨k, 0, none⟩), .int .i64 (most : Int)] w fun e w' => e = .returned (.int .i64 ((sizeR l most).1 : Nat)) ∧ RdAt w' k (sizeR l most).2.1 (sizeR l most).2.2 ∧ Kp (fun j => j = k) w w' := by
  have HN := Aside0.mk (rNumber_calls k l w h)
  have HS : Aside0 (sizeR l most = if (numR l).2.2 = true ∨ most < (numR l).1 then (0, (if (numR l).2.2 = true then (numR l).2.1 else []), true) else numR l) := ⟨rfl⟩
  unfold NumPost at HN
  clear h
  generalize sizeR l most = sr at HS ⊢
  generalize numR l = nr at HN HS hv
  obtain ⟨n, r, b⟩ := nr
  dsimp only at HN HS hv
  have hmu : IntKind.u64.wrap (most : Int) = (most : Int) := by rw [IntKind.wrap_u64]; omega
  have hm0 : ¬ ((most : Int) < 0) := by omega
  cases b with
  | true =>
    obtain rfl : sr = (0, r, true) := by rw [HS.out, if_pos (.inl rfl), if_pos rfl]
    go_enter Tryz.func118, Tryz.ntmps118
    go_wp2_with fail
    refine HN.out.mono ?_
    rintro e w1 ⟨rfl, hr1, hk1⟩
    have HR1 := Aside0.mk hr1
    have HK1 := Aside0.mk hk1
    clear hr1 hk1
    go_wp2_with fail
    refine (rGood_calls k r true w1 HR1.out).mono ?_
    rintro e w2 ⟨rfl, rfl⟩
    go_wp2_with fail
    refine (rGood_calls k r true w1 HR1.out).mono ?_
    rintro e w2 ⟨rfl, rfl⟩
    go_wp2_with fail
    go_ret
    exact ⟨rfl, HR1.out, HK1.out⟩
  | false =>
    by_cases hgt : most < n
    · obtain rfl : sr = (0, [], true) := by rw [HS.out, if_pos (.inr hgt), if_neg (by decide)]
      have hgti : (n : Int) > (most : Int) := by omega
      clear hgt
      go_enter Tryz.func118, Tryz.ntmps118
      go_wp2_with fail
      refine HN.out.mono ?_
      rintro e w1 ⟨rfl, hr1, hk1⟩
      have HR1 := Aside0.mk hr1
      have HK1 := Aside0.mk hk1
      clear hr1 hk1
      go_wp2_with fail
      refine (rGood_calls k r false w1 HR1.out).mono ?_
      rintro e w2 ⟨rfl, rfl⟩
      go_wp2_with fail
      refine (rFail_calls k r false w1 HR1.out).mono ?_
      rintro e w2 ⟨rfl, hr2, hk2⟩
      have HR2 := Aside0.mk hr2
      have HK2 := Aside0.mk (HK1.out.trans hk2)
      clear hr2 hk2
      go_wp2_with fail
      refine (rGood_calls k [] true w2 HR2.out).mono ?_
      rintro e w3 ⟨rfl, rfl⟩
      go_wp2_with fail
      go_ret
      exact ⟨rfl, HR2.out, HK2.out⟩
    · obtain rfl : sr = (n, r, false) := by rw [HS.out, if_neg (fun h => h.elim (fun h => by cases h) hgt)]
      have hgti : ¬ ((n : Int) > (most : Int)) := by omega
      have hni : IntKind.i64.wrap (n : Int) = (n : Int) := by rw [IntKind.wrap_i64]; omega
      clear hgt
      go_enter Tryz.func118, Tryz.ntmps118
      go_wp2_with fail
      refine HN.out.mono ?_
      rintro e w1 ⟨rfl, hr1, hk1⟩
      have HR1 := Aside0.mk hr1
      have HK1 := Aside0.mk hk1
      clear hr1 hk1
      go_wp2_with fail
      refine (rGood_calls k r false w1 HR1.out).mono ?_
      rintro e w2 ⟨rfl, rfl⟩
      go_wp2_with fail
      refine (rGood_calls k r false w1 HR1.out).mono ?_
      rintro e w2 ⟨rfl, rfl⟩
      go_wp2_with fail
      go_ret
      exact ⟨rfl, HR1.out, HK1.out⟩
theorem bytesOf_nb (s : ByteArray) : bytesOf s = nb s.data.toList := rfl
set_option maxRecDepth 100000 in
theorem rRead_calls (s : ByteArray) (w : World) (hs : s.size ≤ 1099511627776) : Calls Tryz.prog 117 #[.string s] w fun e w' => ∃ k, e = .returned (.pointer (some ⟨k, 0, none⟩)) ∧ w.heap.size ≤ k ∧ RdAt w' k s.data.toList false ∧ Below w.heap.size w w' := by
  have kb := print_bytes (P := Tryz.prog) 9 25 5 Tryz.underlying9 Tryz.underlying25 Tryz.underlying5 s w
  have hcr := bytes_reads w 5 s (by omega)
  have hbel := Aside0.mk (bytes_below (Below.refl w.heap.size w) (Nat.le_refl _) 5 s)
  have hge := grownCap_ge w s.size 0 5
  have hlt : w.heap.size < (Lib.bytesWorld w 5 s).heap.size := by
    have h9 := Lib.bytesWorld_at_new w 5 s
    exact (Array.getElem?_eq_some_iff.1 h9).1
  have HCR : Aside0 (Kd.C (Kd.int .u8) (Lib.bytesWorld w 5 s) (some ⟨w.heap.size, 0, none⟩) s.data.toList.length (nb s.data.toList)) := ⟨by
    rw [toList_size, ← bytesOf_nb]
    exact Kd.C_of_reads (d := (0 : Int)) hcr⟩
  generalize grownCap w s.size 0 5 = cap at kb hge
  generalize Lib.bytesWorld w 5 s = W at kb hbel hlt HCR
  clear hcr
  go_enter Tryz.func117, Tryz.ntmps117
  go_wp2_with fail
  go_ret
  refine ⟨W.heap.size, rfl, Nat.le_of_lt hlt, ⟨some ⟨w.heap.size, 0, none⟩, cap, ?_, by rw [toList_size]; exact hge, Kd.C_alloc HCR.out _, fun ad e => ?_⟩, hbel.out.alloc (Nat.le_of_lt hlt) _⟩
  · rw [toList_size]
    exact blk_new W _
  · cases e
    exact Nat.ne_of_lt hlt
theorem numR_lt (l : List UInt8) : (numR l).1 < 18446744073709551616 := by
  unfold numR Crc.takeNum
  cases l with
  | nil => decide
  | cons c r =>
    simp only
    by_cases h : c.toNat ≤ 8 ∧ c.toNat ≤ r.length ∧ (r.take c.toNat).head? ≠ some 0
    · rw [if_pos h]
      have := val_lt 8 (r.take c.toNat) (by rw [List.length_take]; omega)
      exact this
    · rw [if_neg h]
      decide
theorem allK_each (k : Nat) : ∀ l : List UInt8, ∀ x ∈ (Crc.allK k l).1, x.length ≤ l.length := by
  induction k with
  | zero => intro l x hx; simp [Crc.allK] at hx
  | succ k ih =>
    intro l x hx
    unfold Crc.allK at hx
    split at hx
    · simp at hx
    · split at hx
      · rename_i h1 h2
        rcases List.mem_cons.1 hx with rfl | hx
        · unfold Crc.openL
          split
          · simp
          · split
            · simp
            · split
              · simp
              · split
                · simp; omega
                · simp
        · have := ih _ x hx
          rw [List.length_drop] at this
          omega
      · simp at hx
theorem all_each (l : List UInt8) : ∀ x ∈ (Crc.allL l).1, x.length ≤ l.length := allK_each _ l
/-- What a mark's one text tells. -/
theorem sizeR_mark (x : List UInt8) : Crc.markNum x = (if !(sizeR x 99999999).2.2 && decide ((sizeR x 99999999).2.1.length = 0) then some (sizeR x 99999999).1 else none) := by
  unfold Crc.markNum sizeR numR
  cases h : Crc.takeNum x with
  | none => simp
  | some p =>
    obtain ⟨n, r⟩ := p
    cases r with
    | nil =>
      by_cases hn : n ≤ 99999999
      · have : ¬ 99999999 < n := by omega
        simp [hn, this]
      · have : 99999999 < n := by omega
        simp [hn, this]
    | cons c r =>
      by_cases hn : 99999999 < n
      · simp [hn]
      · simp [hn]
/-- marked's answer. -/
def MarkPost (s : ByteArray) (w : World) (e : Ending) (w' : World) : Prop := ∃ v : Int, e = .returned (.tuple #[.int .i64 v, .bool (markedB s).isSome]) ∧ (∀ n, markedB s = some n → v = (n : Int)) ∧ Below w.heap.size w w'
theorem marked_no (s : ByteArray) (h : (PA.allB s).2.2 ≠ 0 ∨ (PA.allB s).1.length ≠ 1) : markedB s = none := by
  unfold markedB Crc.markedL
  unfold PA.allB at h
  simp only [List.length_map] at h
  generalize Crc.allL s.data.toList = a at h ⊢
  obtain ⟨l, n, y⟩ := a
  match l, y, h with
  | [], _, _ => rfl
  | [x], 0, h => simp at h
  | [x], y + 1, _ => rfl
  | x :: z :: r, _, _ => rfl
theorem marked_one (s x : ByteArray) (h0 : (PA.allB s).2.2 = 0) (h1 : (PA.allB s).1 = [x]) : markedB s = Crc.markNum x.data.toList := by
  unfold markedB Crc.markedL
  unfold PA.allB at h0 h1
  generalize Crc.allL s.data.toList = a at h0 h1 ⊢
  obtain ⟨l, n, y⟩ := a
  simp only at h0 h1
  have hy : y = 0 := by omega
  subst hy
  match l, h1 with
  | [z], h1 =>
    have : Crc.mkB z = x := by simpa using h1
    rw [← this]
    rfl
set_option maxHeartbeats 1000000 in
set_option maxRecDepth 100000 in
theorem marked_calls (s : ByteArray) (w : World) (hT : SumW.Tab w) (hs : s.size ≤ 1073741824) : Calls Tryz.prog 77 #[.string s] w (MarkPost s w) := by
  have HAC := Aside0.mk (PA.seal_All.calls (s.size + 10) s (PA.allB s).1 (PA.allB s).2.1 (PA.allB s).2.2 w hT (PA.all_at s hs _ (Nat.le_refl _)))
  have HNO := Aside0.mk (marked_no s)
  have HON := Aside0.mk (marked_one s)
  have hsz : ∀ x ∈ (PA.allB s).1, x.size ≤ 1073741824 := fun x hx => by
    unfold PA.allB at hx
    simp only [List.mem_map] at hx
    obtain ⟨y, hy, rfl⟩ := hx
    rw [Crc.mkB_size]
    have := all_each s.data.toList y hy
    rw [toList_size] at this
    omega
  have HSZ := Aside0.mk hsz
  clear hT hsz
  generalize PA.allB s = al at HAC HNO HON HSZ
  obtain ⟨l, at_, y⟩ := al
  dsimp only at HAC HNO HON HSZ
  have HP : Aside0 (∀ e w', (∃ v : Int, e = .returned (.tuple #[.int .i64 v, .bool (markedB s).isSome]) ∧ (∀ n, markedB s = some n → v = (n : Int)) ∧ Below w.heap.size w w') → MarkPost s w e w') := ⟨fun e w' h => h⟩
  by_cases hy : y = 0
  · by_cases hl : l.length = 1
    · obtain ⟨x, rfl⟩ : ∃ x, l = [x] := by
        match l, hl with
        | [x], _ => exact ⟨x, rfl⟩
      subst hy
      have HM := Aside0.mk (HON.out x rfl rfl)
      have hxs := HSZ.out x List.mem_cons_self
      clear hl HNO HON HSZ
      go_enter Tryz.func77, Tryz.ntmps77
      go_wp2_with fail
      refine HAC.out.mono ?_
      rintro e w1 ⟨v, rfl, hr1, hb1⟩
      obtain ⟨A, c, rfl⟩ := Kd.R_slice hr1
      obtain ⟨ad, e0, hx⟩ := Kd.at_string (Kd.R_reads' hr1).2.2 0 (by decide) (by simp)
      subst e0
      have hx2 : w1.cell? ad = some (.string x) := by
        have e8 : ad.add 0 = ad := by simp [Addr.add]
        simp only [Int.toNat_zero] at hx
        rw [e8] at hx
        exact hx
      have HB1 := Aside0.mk hb1
      clear hr1 hb1 hx HAC
      go_wp2_with fail
      refine (rRead_calls x w1 (by omega)).mono ?_
      rintro e w2 ⟨k, rfl, hk2, hr2, hb2⟩
      have HR2 := Aside0.mk hr2
      have HB2 := Aside0.mk (below_step HB1.out hb2)
      have hkl : w.heap.size ≤ k := Nat.le_trans HB1.out.size hk2
      have HSM := Aside0.mk (sizeR_mark x.data.toList)
      clear hr2 hb2 hk2
      go_wp2_with fail
      refine (rSize_calls k x.data.toList 99999999 w2 HR2.out (by decide) (numR_lt _)).mono ?_
      rintro e w3 ⟨rfl, hr3, hk3⟩
      generalize sizeR x.data.toList 99999999 = sr at hr3 HSM ⊢
      obtain ⟨n, r, b⟩ := sr
      dsimp only at hr3 HSM ⊢
      have HR3 := Aside0.mk hr3
      have HB3 := Aside0.mk (HB2.out.trans (hk3.below HB2.out.size (fun j hj => by rw [hj]; exact hkl)))
      clear hr3 hk3
      go_wp2_with fail
      refine (rEnd_calls k r b w3 HR3.out).mono ?_
      rintro e w4 ⟨rfl, rfl⟩
      go_wp2_with fail
      go_ret2
      refine HP.out _ _ ⟨(n : Int), ?_, fun m hm => ?_, HB3.out⟩
      · rw [HM.out, HSM.out]
        cases b <;> by_cases h0 : r = [] <;> simp [h0]
      · rw [HM.out, HSM.out] at hm
        cases hb : (!b && decide (r.length = 0))
        · rw [hb] at hm; cases hm
        · rw [hb] at hm
          simp at hm
          omega
    · subst hy
      have HN := Aside0.mk (HNO.out (.inr hl))
      clear HNO HON HSZ
      generalize hm : l.length = m at HAC hl
      have HM := Aside0.mk hm
      have hli : ¬ ((m : Int) = 1) := by omega
      clear hm hl
      go_enter Tryz.func77, Tryz.ntmps77
      go_wp2_with fail
      refine HAC.out.mono ?_
      rintro e w1 ⟨v, rfl, hr1, hb1⟩
      obtain ⟨A, c, rfl⟩ := Kd.R_slice hr1
      rw [HM.out]
      have HB1 := Aside0.mk hb1
      clear hr1 hb1 HAC
      go_wp2_with fail
      go_ret2
      exact HP.out _ _ ⟨0, by rw [HN.out]; rfl, (fun m hm => by rw [HN.out] at hm; cases hm), HB1.out⟩
  · have HN := Aside0.mk (HNO.out (.inl hy))
    clear HNO HON HSZ
    go_enter Tryz.func77, Tryz.ntmps77
    go_wp2_with fail
    refine HAC.out.mono ?_
    rintro e w1 ⟨v, rfl, hr1, hb1⟩
    obtain ⟨A, c, rfl⟩ := Kd.R_slice hr1
    have HB1 := Aside0.mk hb1
    clear hr1 hb1 HAC
    go_wp2_with fail
    go_ret2
    exact HP.out _ _ ⟨0, by rw [HN.out]; rfl, (fun m hm => by rw [HN.out] at hm; cases hm), HB1.out⟩
end Go.Proofs.YtcbbdkennmopdaaGreatDoor.PK
/- strings.Builder: copyCheck and WriteString, in this program's own translation (lines of the shelf's worked proofs, turned to it). -/
namespace Go.Proofs.YtcbbdkennmopdaaGreatDoor.PK
open Go.RowKit Go.Proofs.YtcbbdkennmopdaaGreatDoorW.PrintWords Go.Proofs.YtcbbdkennmopdaaGreatDoorW.PrintLast Go.Proofs.YtcbbdkennmopdaaGreatDoorW.PrintMore
set_option maxHeartbeats 1000000 in
set_option maxRecDepth 100000 in
theorem copyCheck_used (b : Nat) (w : World) (h0 : w.cell? ⟨b, 0, none⟩ = some (.pointer (some ⟨b, 0, none⟩))) : Calls Tryz.prog 137 #[.pointer (some ⟨b, 0, none⟩)] w fun e w' => e = .returned (.tuple #[]) ∧ w' = w := by
  obtain ⟨j, hj, _⟩ := Option.map_eq_some_iff.1 (Tryz.Builder_Extra_105).sizeBuilder
  go_enter Tryz.func137, Tryz.ntmps137
  go_wp2
  rw [Lib.run_neq_ptr_same w _ Tryz.underlying138 hj]
  go_wp2
  go_end0
  exact ⟨rfl, rfl⟩
set_option maxHeartbeats 1000000 in
set_option maxRecDepth 100000 in
theorem copyCheck_fresh (b : Nat) (w : World) (h0 : w.cell? ⟨b, 0, none⟩ = some (.pointer none)) (hsh : w.shape? b = some (140, 2)) (hfz : w.frozen? ⟨b, 0, none⟩ = false) :
    Calls Tryz.prog 137 #[.pointer (some ⟨b, 0, none⟩)] w fun e w' => e = .returned (.tuple #[]) ∧ w' = w.setCell ⟨b, 0, none⟩ (.pointer (some ⟨b, 0, none⟩)) := by
  obtain ⟨j, hj, hjs⟩ := Option.map_eq_some_iff.1 (Tryz.Builder_Extra_105).sizeBuilder
  go_enter Tryz.func137, Tryz.ntmps137
  go_wp2
  rw [Lib.run_to_unsafe w ⟨b, 0, none⟩ Tryz.underlying138 Tryz.underlying204 hj (by rw [hjs]; decide) hsh (Nat.zero_lt_succ 1)]
  simp only [Result.andThen]
  rw [Oper.upon_value]
  go_wp2
  rw [run_callFunc_extern Tryz.func168 (by kernel_rfl) (by kernel_rfl) (by kernel_rfl) (e := Extern.AbiNoEscape.same) (by kernel_rfl)]
  rw [Lib.run_noEscape]
  simp only [Result.andThen]
  rw [Oper.upon_value]
  go_wp2
  rw [Lib.run_from_unsafe w ⟨b, 0, none⟩ Tryz.underlying204 Tryz.underlying138 hj hsh (Tryz.Builder_Extra_105).liesBuilder]
  simp only [Result.andThen]
  rw [Oper.upon_value]
  go_wp2
  go_end0
  exact ⟨rfl, rfl⟩
/-- A builder at block b that holds bytes; the blocks K are none of its own: they are no rows of bytes. -/
structure Bld (B b : Nat) (K : Nat → Prop) (bs : List Value) (w : World) : Prop where
  is : Lib.IsBuilder 140 5 B b bs w
  far : ∀ k, K k → k < w.heap.size ∧ k ≠ b ∧ ∀ cs, w.heap[k]? ≠ some (.cells cs 5 (0, 0))
theorem own_not {w : World} {B n k : Nat} {v : Value} {xs : List Value} (h : w.ownsRow B 5 1 v n xs) (hk : ∀ cs, w.heap[k]? ≠ some (.cells cs 5 (0, 0))) : v.ownBlock ≠ some k := by
  rcases h.2 with ⟨rfl, _⟩ | ⟨g, cap, cur, rfl, _, hh, _⟩
  · exact fun e => by cases e
  · intro e
    have e1 : g = k := Option.some.inj e
    exact hk cur (e1 ▸ hh)
theorem Bld.below {B b : Nat} {K : Nat → Prop} {bs : List Value} {w w' : World} (h : Bld B b K bs w) (hb : Below w.heap.size w w') : Bld B b K bs w' := by
  have key : ∀ p, Lib.BuilderAt 140 5 B b p bs w → Lib.BuilderAt 140 5 B b p bs w' := by
    rintro p ⟨hB, v, hbk, hown, hne⟩
    refine ⟨hB, v, (hb.block b (blk_lt hbk)).trans hbk, ⟨hown.1, ?_⟩, hne⟩
    rcases hown.2 with ⟨hv, h0⟩ | ⟨g, cap, cur, hv, hg, hh, hr⟩
    · exact .inl ⟨hv, h0⟩
    · exact .inr ⟨g, cap, cur, hv, hg, (hb.block g (blk_lt hh)).trans hh, hr⟩
  refine ⟨h.is.imp (key _) (key _), fun k hk => ?_⟩
  have hf := h.far k hk
  refine ⟨Nat.lt_of_lt_of_le hf.1 hb.size, hf.2.1, fun cs => ?_⟩
  rw [hb.block k hf.1]
  exact hf.2.2 cs
set_option maxHeartbeats 2000000 in
set_option maxRecDepth 100000 in
theorem WriteString_calls (B b : Nat) (K : Nat → Prop) (bs : List Value) (s : ByteArray) (w : World) (hq : Bld B b K bs w) (hlen : bs.length + s.size ≤ 140737488355328) (hBw : B ≤ w.heap.size) :
    Calls Tryz.prog 104 #[.pointer (some ⟨b, 0, none⟩), .string s] w fun e w' => e = .returned (.tuple #[.int .i64 s.size, .nilIface]) ∧ Bld B b K (bs ++ Lib.strCells s) w' ∧ Below B w w' ∧ Held K w w' := by
  obtain ⟨i0, hi, hz0, hz1, hz2⟩ := info_parts (Tryz.Builder_Extra_105).infoByte
  have hcc : Calls Tryz.prog 137 #[.pointer (some ⟨b, 0, none⟩)] w fun e w1 => e = .returned (.tuple #[]) ∧ Lib.BuilderAt 140 5 B b (.pointer (some ⟨b, 0, none⟩)) bs w1 ∧ Below B w w1 ∧ w.heap.size ≤ w1.heap.size ∧ ∀ k, K k → w1.heap[k]? = w.heap[k]? := by
    rcases hq.is with h | h
    · refine (copyCheck_fresh b w h.cell0 h.shape h.frozen0).mono ?_
      rintro e w' ⟨rfl, rfl⟩
      have hs : Kp (fun j => j = b) w (w.setCell ⟨b, 0, none⟩ (.pointer (some ⟨b, 0, none⟩))) := Kp.of_set rfl
      exact ⟨rfl, h.used _, (Below.refl B w).setCell (p := ⟨b, 0, none⟩) h.1 _, hs.size, fun k hk => hs.block k (hq.far k hk).1 (hq.far k hk).2.1⟩
    · refine (copyCheck_used b w h.cell0).mono ?_
      rintro e w' ⟨rfl, rfl⟩
      exact ⟨rfl, h, Below.refl B _, Nat.le_refl _, fun k hk => rfl⟩
  go_enter Tryz.func104, Tryz.ntmps104
  go_wp2_with fail
  refine hcc.mono ?_
  rintro e w1 ⟨rfl, h1, hb1, hsz1, hK1⟩
  obtain ⟨hB, v, hbk, hown, hne⟩ := h1
  have c0 : w1.cell? ⟨b, 0, none⟩ = some (.pointer (some ⟨b, 0, none⟩)) := by rw [Lib.cell_of_heap hbk]; rfl
  have c1 : w1.cell? ⟨b, 1, none⟩ = some v := by rw [Lib.cell_of_heap hbk]; rfl
  go_wp2_with (at_builtin; refine Lib.wpList_append_own_string _ rfl _ _ 25 9 rfl B 5 i0 Tryz.underlying25 Tryz.underlying9 hi hz0 hz1 hz2 _ _ _ rfl hown s rfl ?c3 ?c4 ?c5 ?_)
  case c3 => unfold maxLen; omega
  case c4 => omega
  case c5 => have := hb1.size; omega
  intro v' w2 hown' hgrow _
  have hlt : b < w1.heap.size := blk_lt hbk
  have hb2 : w2.heap[b]? = some (.cells #[.pointer (some ⟨b, 0, none⟩), v] 140 (0, 0)) := by
    rw [hgrow.block b hlt (fun e => hne e.symm)]
    exact hbk
  have d0 : w2.cell? ⟨b, 0, none⟩ = some (.pointer (some ⟨b, 0, none⟩)) := by rw [Lib.cell_of_heap hb2]; rfl
  have d1 : w2.cell? ⟨b, 1, none⟩ = some v := by rw [Lib.cell_of_heap hb2]; rfl
  have f1 : w2.frozen? ⟨b, 1, none⟩ = false := Lib.frozen_of_heap hb2 1
  obtain ⟨ao, n', cap, rfl⟩ : ∃ ao n' cap, v' = .slice ao n' cap := by
    rcases hown'.2 with ⟨hv, _⟩ | ⟨g, cap, cur, hv, _⟩
    · exact ⟨_, _, _, hv⟩
    · exact ⟨_, _, _, hv⟩
  go_wp2
  go_ret2
  have hs3 : Kp (fun j => j = b) w2 (w2.setCell ⟨b, 1, none⟩ (.slice ao n' cap)) := Kp.of_set rfl
  have hkeep : ∀ k, K k → (w2.setCell ⟨b, 1, none⟩ (.slice ao n' cap)).heap[k]? = w.heap[k]? := fun k hk => by
    have hf := hq.far k hk
    have h9 := hK1 k hk
    have hlt1 : k < w1.heap.size := Nat.lt_of_lt_of_le hf.1 hsz1
    rw [hs3.block k (Nat.lt_of_lt_of_le hlt1 hgrow.size) hf.2.1, hgrow.block k hlt1 (fun e => own_not hown (fun cs => by rw [h9]; exact hf.2.2 cs) e.symm), h9]
  refine ⟨rfl, ⟨.inr ?_, fun k hk => ?_⟩, ?_, hkeep⟩
  · exact Lib.BuilderAt.put (T := 140) (e := 5) hB hb2 (bs' := bs ++ Lib.strCells s) (by simpa [Lib.strCells_length] using hown') (Tryz.Builder_Extra_105).neB5
  · have hf := hq.far k hk
    refine ⟨Nat.lt_of_lt_of_le hf.1 (Nat.le_trans hsz1 (Nat.le_trans hgrow.size hs3.size)), hf.2.1, fun cs => ?_⟩
    rw [hkeep k hk]
    exact hf.2.2 cs
  · exact (hb1.grown hgrow (by have := hb1.size; omega) (fun k hk => (hown.lt k hk).1)).setCell (p := ⟨b, 1, none⟩) hB _
end Go.Proofs.YtcbbdkennmopdaaGreatDoor.PK
/- files: what is found behind a change; a use as a change of the files alone. -/
namespace Go.Proofs.YtcbbdkennmopdaaGreatDoor.PK
open Go.RowKit Go.Proofs.YtcbbdkennmopdaaGreatDoorW.PrintWords Go.Proofs.YtcbbdkennmopdaaGreatDoorW.PrintLast Go.Proofs.YtcbbdkennmopdaaGreatDoorW.PrintMore
open Go.Maps
theorem getF_cons (y : Fl) (r : List Fl) (s : ByteArray) : getF (y :: r) s = if y.name = s then some y else getF r s := by
  unfold getF
  rw [List.find?_cons]
  by_cases h : y.name = s
  · rw [if_pos h, sameN_iff.2 h]
  · rw [if_neg h, sameN_ne.2 h]
theorem getF_nil (s : ByteArray) : getF [] s = none := rfl
theorem delF_nil (s : ByteArray) : delF [] s = [] := rfl
theorem delF_cons (y : Fl) (r : List Fl) (s : ByteArray) : delF (y :: r) s = if y.name = s then delF r s else y :: delF r s := by
  unfold delF
  rw [List.filter_cons]
  by_cases h : y.name = s
  · rw [if_pos h, sameN_iff.2 h]; rfl
  · rw [if_neg h, sameN_ne.2 h]; rfl
theorem getF_del : ∀ (fs : List Fl) (a s : ByteArray), getF (delF fs a) s = if s = a then none else getF fs s
  | [], a, s => by rw [delF_nil, getF_nil]; split <;> rfl
  | y :: r, a, s => by
    have ih := getF_del r a s
    rw [delF_cons, getF_cons]
    by_cases h1 : y.name = a
    · rw [if_pos h1, ih]
      by_cases h2 : s = a
      · rw [if_pos h2, if_pos h2]
      · rw [if_neg h2, if_neg h2, if_neg (fun e => h2 (e.symm.trans h1))]
    · rw [if_neg h1, getF_cons, ih]
      by_cases h2 : y.name = s
      · rw [if_pos h2, if_pos h2, if_neg (fun e => h1 (h2.trans e))]
      · rw [if_neg h2, if_neg h2]
theorem getF_upd : ∀ (fs : List Fl) (a : ByteArray) (h : Fl → Fl) (_ : ∀ x, (h x).name = x.name) (s : ByteArray), getF (updF fs a h) s = if s = a then (getF fs s).map h else getF fs s
  | [], a, h, _, s => by show getF [] s = _; rw [getF_nil]; split <;> rfl
  | y :: r, a, h, hn, s => by
    have ih := getF_upd r a h hn s
    have e : updF (y :: r) a h = (if sameN y.name a = true then h y else y) :: updF r a h := rfl
    rw [e, getF_cons, getF_cons]
    by_cases h1 : y.name = a
    · rw [if_pos (sameN_iff.2 h1), hn, ih]
      by_cases h2 : y.name = s
      · rw [if_pos h2, if_pos h2, if_pos (h2.symm.trans h1)]; rfl
      · rw [if_neg h2, if_neg h2]
    · rw [if_neg (fun e => h1 (sameN_iff.1 e)), ih]
      by_cases h2 : y.name = s
      · rw [if_pos h2, if_pos h2, if_neg (fun e => h1 (h2.trans e))]
      · rw [if_neg h2, if_neg h2]
theorem getF_ins : ∀ (l : List Fl) (x : Fl) (_ : getF l x.name = none) (s : ByteArray), getF (insF x l) s = if s = x.name then some x else getF l s
  | [], x, _, s => by
    show getF [x] s = _
    rw [getF_cons]
    by_cases h : x.name = s
    · rw [if_pos h, if_pos h.symm]
    · rw [if_neg h, if_neg (fun e => h e.symm)]
  | y :: r, x, h0, s => by
    rw [getF_cons] at h0
    have h1 : y.name ≠ x.name := fun e => by rw [if_pos e] at h0; cases h0
    rw [if_neg h1] at h0
    have ih := getF_ins r x h0 s
    unfold insF
    split
    · rw [getF_cons]
      by_cases h : x.name = s
      · rw [if_pos h, if_pos h.symm]
      · rw [if_neg h, if_neg (fun e => h e.symm)]
    · rw [getF_cons, getF_cons, ih]
      by_cases h2 : y.name = s
      · rw [if_pos h2, if_pos h2, if_neg (fun e => h1 (h2.trans e))]
      · rw [if_neg h2, if_neg h2]
theorem getF_put (fs : List Fl) (x : Fl) (s : ByteArray) : getF (putF fs x) s = if s = x.name then some x else getF fs s := by
  unfold putF
  rw [getF_ins _ _ (by rw [getF_del, if_pos rfl]), getF_del]
  split <;> rfl
theorem getF_mem {fs : List Fl} (hn : (fs.map (·.name)).Nodup) {f : Fl} (hf : f ∈ fs) : getF fs f.name = some f := by
  obtain ⟨k, hk, rfl⟩ := List.getElem_of_mem hf
  exact getF_at hn k hk
theorem Asc.ext : ∀ {l m : List Fl}, Asc l → Asc m → (∀ s, getF l s = getF m s) → l = m := by
  intro l m hl hm h
  have hp : l.Perm m := by
    refine (List.perm_ext_iff_of_nodup ?_ ?_).2 fun f => ?_
    · exact (List.pairwise_map.1 hl.names).imp (fun hne e => hne (congrArg _ e))
    · exact (List.pairwise_map.1 hm.names).imp (fun hne e => hne (congrArg _ e))
    · constructor
      · intro hf
        have := getF_mem hl.names hf
        rw [h] at this
        exact (getF_some this).1
      · intro hf
        have := getF_mem hm.names hf
        rw [← h] at this
        exact (getF_some this).1
  exact hp.eq_of_pairwise (fun a b _ _ h1 h2 => by
    have := lessN_trans h1 h2
    rw [lessN_irr] at this
    cases this) hl hm
theorem usedF_nil : usedF [] = 0 := rfl
theorem usedF_cons (x : Fl) (r : List Fl) : usedF (x :: r) = x.data.size + usedF r := by unfold usedF; rw [List.map_cons, List.sum_cons]
theorem usedF_ins (x : Fl) : ∀ l : List Fl, usedF (insF x l) = x.data.size + usedF l
  | [] => rfl
  | y :: r => by
    have ih := usedF_ins x r
    unfold insF
    split
    · rw [usedF_cons]
    · rw [usedF_cons, usedF_cons, ih]; omega
theorem usedF_del : ∀ (l : List Fl) (s : ByteArray), usedF (delF l s) ≤ usedF l
  | [], s => Nat.le_refl _
  | y :: r, s => by
    have ih := usedF_del r s
    rw [delF_cons, usedF_cons]
    split
    · omega
    · rw [usedF_cons]; omega
theorem usedF_put (l : List Fl) (x : Fl) : usedF (putF l x) ≤ x.data.size + usedF l := by
  unfold putF
  rw [usedF_ins]
  have := usedF_del l x.name
  omega
theorem usedF_upd (l : List Fl) (s : ByteArray) (h : Fl → Fl) (hd : ∀ x, (h x).data = x.data) : usedF (updF l s h) = usedF l := by
  unfold usedF updF
  rw [List.map_map]
  congr 1
  refine List.map_congr_left fun x _ => ?_
  show (if sameN x.name s = true then h x else x).data.size = x.data.size
  split
  · rw [hd]
  · rfl
theorem delF_le (l : List Fl) (s : ByteArray) : (delF l s).length ≤ l.length := List.length_filter_le _ _
theorem putF_le (l : List Fl) (x : Fl) : (putF l x).length ≤ l.length + 1 := by
  unfold putF
  rw [insF_len]
  have := delF_le l x.name
  omega
/-- A use as a change of the files. -/
def opD (s : DS) (F : List Fl → List Fl) : DS × Int := if (useD s).2 = true then ({ (useD s).1 with files := F s.files }, 0) else ((useD s).1, 7)
theorem may_any (x : ByteArray) (h : mayN x = true) : ([x].any fun s => !mayN s) = false := by simp [h]
theorem begin_one (s : DS) (x : ByteArray) (h : mayN x = true) : beginD s [x] = ((useD s).1, if (useD s).2 = true then 0 else 7) := by
  unfold beginD
  rw [may_any x h]
  rfl
theorem there_one (s : DS) (x : ByteArray) (h : mayN x = true) : thereD s [x] = ((useD s).1, if (useD s).2 = true then (if (getF s.files x).isSome = true then 0 else 8) else 7) := by
  unfold thereD
  rw [begin_one s x h]
  dsimp only
  congr 1
  cases (useD s).2
  · rfl
  · simp only [if_true, List.all_cons, List.all_nil, Bool.and_true]
    rfl
theorem drop_op (s : DS) (x : ByteArray) (h : mayN x = true) : dropD s x = opD s (fun fs => delF fs x) := by
  unfold dropD deleteD opD
  rw [there_one s x h]
  dsimp only
  rw [useD_files]
  cases (useD s).2
  · rfl
  · simp only [if_true]
    cases hg : getF s.files x with
    | none =>
      rw [delF_none hg]
      have := useD_files s
      have e : ({ (useD s).1 with files := s.files } : DS) = (useD s).1 := by rw [← this]
      rw [e]
      rfl
    | some f => rfl
theorem delete_op (s : DS) (x : ByteArray) (h : mayN x = true) (hg : (getF s.files x).isSome = true) : deleteD s x = opD s (fun fs => delF fs x) := by
  unfold deleteD opD
  rw [there_one s x h, hg]
  dsimp only
  rw [useD_files]
  cases (useD s).2 <;> rfl
theorem delete_gone (s : DS) (x : ByteArray) (h : mayN x = true) (hg : getF s.files x = none) : deleteD s x = ((useD s).1, if (useD s).2 = true then 8 else 7) := by
  unfold deleteD
  rw [there_one s x h, hg]
  dsimp only
  cases (useD s).2 <;> rfl
theorem fits_use (s : DS) (name : ByteArray) (a c : Int) : fitsD (useD s).1 name a c = fitsD s name a c := by
  unfold fitsD freeD
  rw [useD_files, useD_room]
theorem fits_zero (s : DS) (name : ByteArray) (a : Nat) (h1 : a ≤ 1048576) (h2 : s.files.length < 100) (h3 : (a : Int) ≤ freeD s) : fitsD s name (a : Int) 0 = 0 := by
  unfold fitsD
  rw [if_neg (by rintro (h | ⟨_, h⟩) <;> omega), if_neg (by omega)]
theorem empty_app (x : ByteArray) : (⟨#[]⟩ : ByteArray) ++ x = x := by
  apply ByteArray.ext
  simp
theorem app_op (s : DS) (x data : ByteArray) (h : mayN x = true) (hg : getF s.files x = none) (h1 : data.size ≤ 1048576) (h2 : s.files.length < 100) (h3 : (data.size : Int) ≤ freeD s) : appS s x data = opD s (fun fs => putF fs ⟨x, 0, data, 0⟩) := by
  have ho : oldF s.files x = (⟨#[]⟩, 0) := by unfold oldF; rw [hg]
  have hc : appendC s x [data] = if (useD s).2 = true then 0 else 7 := by
    unfold appendC
    rw [begin_one s x h]
    dsimp only
    rw [fits_use, ho]
    have e1 : (((⟨#[]⟩ : ByteArray).size + sumS [data] : Nat) : Int) = (data.size : Int) := by
      show (((0 : Nat) + ([data].map (·.size)).sum : Nat) : Int) = _
      simp
    have e2 : (((⟨#[]⟩ : ByteArray).size : Nat) : Int) = 0 := rfl
    rw [e1, e2, fits_zero s x data.size h1 h2 h3]
    cases (useD s).2 <;> rfl
  unfold appS opD
  rw [hc, ho]
  dsimp only
  rw [empty_app]
  cases (useD s).2 <;> rfl
theorem sync_op (s : DS) (x : ByteArray) (h : mayN x = true) (hg : (getF s.files x).isSome = true) : syncD s [x] = opD s (fun fs => updF fs x keepAll) := by
  unfold syncD opD
  rw [there_one s x h, hg]
  dsimp only
  rw [useD_files]
  cases (useD s).2 <;> rfl
theorem rename_op (s : DS) (a c : ByteArray) (ha : mayN a = true) (hc : mayN c = true) (f : Fl) (hg : getF s.files a = some f) : renameD s a c = opD s (fun fs => renF fs a c f) := by
  have hb : beginD s [a, c] = ((useD s).1, if (useD s).2 = true then 0 else 7) := by
    unfold beginD
    simp [ha, hc]
  unfold renameD opD
  rw [hb]
  dsimp only
  rw [useD_files, hg]
  cases (useD s).2 <;> rfl
/-- Changes, one use each, up to the power's end. -/
def runsD : List (List Fl → List Fl) → DS → DS × Int
  | [], s => (s, 0)
  | F :: r, s => if (opD s F).2 = 0 then runsD r (opD s F).1 else opD s F
theorem opD_cases (s : DS) (F : List Fl → List Fl) : ((opD s F).2 = 0 ∧ (opD s F).1.files = F s.files ∧ (opD s F).1.off = false ∧ s.off = false) ∨ ((opD s F).2 = 7 ∧ (opD s F).1.files = s.files ∧ (opD s F).1.off = true ∧ (s.off = true ∨ s.armed = true)) := by
  unfold opD useD
  by_cases h1 : s.off = true
  · simp [h1]
  · rw [if_neg h1]
    by_cases h2 : s.armed = true ∧ s.left = 0
    · simp [h2]
    · rw [if_neg h2]
      by_cases h3 : s.armed = true
      · simp [h3, h1]
      · simp [h3, h1]
theorem opD_keeps (s : DS) (F : List Fl → List Fl) : (opD s F).1.room = s.room ∧ (opD s F).1.armed = s.armed ∧ (opD s F).1.uses ≤ s.uses + 1 := by
  unfold opD useD
  by_cases h1 : s.off = true
  · simp [h1]; omega
  · rw [if_neg h1]
    by_cases h2 : s.armed = true ∧ s.left = 0
    · simp [h2]
    · rw [if_neg h2]
      by_cases h3 : s.armed = true
      · simp [h3]
      · simp [h3]
def afterF (ops : List (List Fl → List Fl)) (fs : List Fl) : List Fl := ops.foldl (fun fs F => F fs) fs
theorem runs_cases : ∀ (ops : List (List Fl → List Fl)) (s : DS), s.off = false → ((runsD ops s).2 = 0 ∧ (runsD ops s).1.files = afterF ops s.files ∧ (runsD ops s).1.off = false) ∨ ((runsD ops s).2 = 7 ∧ s.armed = true ∧ (runsD ops s).1.off = true ∧ ∃ j, j < ops.length ∧ (runsD ops s).1.files = afterF (ops.take j) s.files)
  | [], s, h => .inl ⟨rfl, rfl, h⟩
  | F :: r, s, h => by
    unfold runsD
    rcases opD_cases s F with ⟨h1, h2, h3, _⟩ | ⟨h1, h2, h3, h4⟩
    · rw [if_pos h1]
      rcases runs_cases r (opD s F).1 h3 with ⟨a1, a2, a3⟩ | ⟨a1, a2, a3, j, a4, a5⟩
      · exact .inl ⟨a1, by rw [a2, h2]; rfl, a3⟩
      · exact .inr ⟨a1, by rw [← (opD_keeps s F).2.1]; exact a2, a3, j + 1, by simp; omega, by rw [a5, h2]; rfl⟩
    · rw [if_neg (by rw [h1]; decide)]
      refine .inr ⟨h1, ?_, h3, 0, by simp, by rw [h2]; rfl⟩
      rcases h4 with h4 | h4
      · rw [h] at h4; cases h4
      · exact h4
theorem runs_keeps : ∀ (ops : List (List Fl → List Fl)) (s : DS), (runsD ops s).1.room = s.room ∧ (runsD ops s).1.armed = s.armed ∧ (runsD ops s).1.uses ≤ s.uses + (ops.length : Int)
  | [], s => ⟨rfl, rfl, by simp [runsD]⟩
  | F :: r, s => by
    have h1 := opD_keeps s F
    unfold runsD
    split
    · have h2 := runs_keeps r (opD s F).1
      refine ⟨h2.1.trans h1.1, h2.2.1.trans h1.2.1, ?_⟩
      have := h2.2.2
      have := h1.2.2
      simp only [List.length_cons]
      omega
    · refine ⟨h1.1, h1.2.1, ?_⟩
      have := h1.2.2
      simp only [List.length_cons]
      omega
end Go.Proofs.YtcbbdkennmopdaaGreatDoor.PK
/- snap: what a Save comes to: changes of the files, one use each; what stands behind them. -/
namespace Go.Proofs.YtcbbdkennmopdaaGreatDoor.PK
open Go.RowKit Go.Proofs.YtcbbdkennmopdaaGreatDoorW.PrintWords Go.Proofs.YtcbbdkennmopdaaGreatDoorW.PrintLast Go.Proofs.YtcbbdkennmopdaaGreatDoorW.PrintMore
open Go.Maps
theorem stepsD_cons {f : DS → DS × Int} {r : List (DS → DS × Int)} {s : DS} {F : List Fl → List Fl} {ops : List (List Fl → List Fl)} (h : f s = opD s F) (hr : ∀ t : DS, t.files = F s.files → t.room = s.room → stepsD r t = runsD ops t) : stepsD (f :: r) s = runsD (F :: ops) s := by
  unfold stepsD runsD
  rw [h]
  by_cases h0 : (opD s F).2 = 0
  · rw [if_pos h0, if_pos h0]
    refine hr _ ?_ (opD_keeps s F).1
    rcases opD_cases s F with ⟨_, h2, _⟩ | ⟨h1, _⟩
    · exact h2
    · rw [h0] at h1; cases h1
  · rw [if_neg h0, if_neg h0]
theorem nameN_size (n : Nat) : (nameN n).size = 10 := by
  show (Crc.nameL n).length = 10
  exact Crc.nameL_length n
theorem nameN_may (n : Nat) : mayN (nameN n) = true := by unfold mayN; rw [nameN_size]; rfl
theorem sMark_may : mayN sMark = true := rfl
theorem sFresh_may : mayN sFresh = true := rfl
theorem nameN_inj {n m : Nat} (hn : n ≤ 99999999) (hm : m ≤ 99999999) (h : nameN n = nameN m) : n = m := by
  have h1 : (nameN n).data.toList = (nameN m).data.toList := by rw [h]
  exact Crc.nameL_inj hn hm h1
theorem ne_mark (n : Nat) : nameN n ≠ sMark := fun h => by
  have := nameN_size n
  rw [h] at this
  exact absurd this (by decide)
theorem ne_fresh (n : Nat) : nameN n ≠ sFresh := fun h => by
  have := nameN_size n
  rw [h] at this
  exact absurd this (by decide)
theorem mark_fresh : sMark ≠ sFresh := fun h => by
  have : sMark.size = sFresh.size := by rw [h]
  exact absurd this (by decide)
theorem nameN_front (n : Nat) : hasP (nameN n) sFront = true := by
  unfold hasP
  show Lib.hasPrefix (Crc.nameL n) [115, 46] = true
  unfold Crc.nameL
  simp [Lib.hasPrefix]
theorem mark_front : hasP sMark sFront = false := by decide
theorem fresh_front : hasP sFresh sFront = false := by decide
/-- Deletions of all but one. -/
def delOps (but : ByteArray) : List ByteArray → List (List Fl → List Fl)
  | [] => []
  | x :: r => if x = but then delOps but r else (fun fs => delF fs x) :: delOps but r
theorem delOps_le (but : ByteArray) : ∀ l, (delOps but l).length ≤ l.length
  | [] => Nat.le_refl _
  | x :: r => by
    have := delOps_le but r
    unfold delOps
    split
    · simp only [List.length_cons]; omega
    · simp only [List.length_cons]; omega
theorem afterF_cons (F : List Fl → List Fl) (r : List (List Fl → List Fl)) (fs : List Fl) : afterF (F :: r) fs = afterF r (F fs) := rfl
theorem afterF_append (a c : List (List Fl → List Fl)) (fs : List Fl) : afterF (a ++ c) fs = afterF c (afterF a fs) := List.foldl_append
open Classical in
theorem getF_after (but : ByteArray) : ∀ (l : List ByteArray) (fs : List Fl) (x : ByteArray), getF (afterF (delOps but l) fs) x = if x ∈ l ∧ x ≠ but then none else getF fs x
  | [], fs, x => by
    show getF fs x = _
    rw [if_neg (fun h => by simp at h)]
  | y :: r, fs, x => by
    unfold delOps
    by_cases h : y = but
    · rw [if_pos h, getF_after but r fs x]
      by_cases h2 : x ∈ r ∧ x ≠ but
      · rw [if_pos h2, if_pos ⟨List.mem_cons_of_mem _ h2.1, h2.2⟩]
      · rw [if_neg h2, if_neg (fun h3 => h2 ⟨(List.mem_cons.1 h3.1).resolve_left (fun e => h3.2 (e.trans h)), h3.2⟩)]
    · rw [if_neg h, afterF_cons, getF_after but r _ x, getF_del]
      by_cases h2 : x ∈ r ∧ x ≠ but
      · rw [if_pos h2, if_pos ⟨List.mem_cons_of_mem _ h2.1, h2.2⟩]
      · rw [if_neg h2]
        by_cases h3 : x = y
        · rw [if_pos h3, if_pos ⟨by rw [h3]; exact List.mem_cons_self, by rw [h3]; exact h⟩]
        · rw [if_neg h3, if_neg (fun h4 => h2 ⟨(List.mem_cons.1 h4.1).resolve_left h3, h4.2⟩)]
theorem after_asc (but : ByteArray) : ∀ (l : List ByteArray) (fs : List Fl), Asc fs → Asc (afterF (delOps but l) fs)
  | [], _, h => h
  | y :: r, fs, h => by
    unfold delOps
    split
    · exact after_asc but r fs h
    · exact after_asc but r _ (h.del _)
theorem others_runs (but : ByteArray) : ∀ (l : List ByteArray) (s : DS) (n : Nat), l.Nodup → (∀ x ∈ l, mayN x = true ∧ (getF s.files x).isSome = true) → othersL but l s n = ((runsD (delOps but l) s).1, if (runsD (delOps but l) s).2 = 0 then ((n + (delOps but l).length : Nat) : Int) else 0, (runsD (delOps but l) s).2)
  | [], s, n, _, _ => rfl
  | x :: r, s, n, hn, h => by
    obtain ⟨hx, hr⟩ := List.nodup_cons.1 hn
    unfold othersL delOps
    by_cases hb : x = but
    · rw [if_pos hb, if_pos hb]
      exact others_runs but r s n hr (fun y hy => h y (List.mem_cons_of_mem _ hy))
    · rw [if_neg hb, if_neg hb]
      have h1 := h x List.mem_cons_self
      rw [delete_op s x h1.1 h1.2]
      unfold runsD
      rcases opD_cases s (fun fs => delF fs x) with ⟨h2, h3, _⟩ | ⟨h2, _⟩
      · rw [if_pos h2, if_pos h2, others_runs but r _ (n + 1) hr (fun y hy => ⟨(h y (List.mem_cons_of_mem _ hy)).1, by
          rw [h3, getF_del, if_neg (fun e => hx (by rw [← e]; exact hy))]
          exact (h y (List.mem_cons_of_mem _ hy)).2⟩)]
        rw [List.length_cons, show n + 1 + (delOps but r).length = n + ((delOps but r).length + 1) by omega]
      · rw [if_neg (by rw [h2]; decide), if_neg (by rw [h2]; decide), h2]
        rfl
/-- The files' names that begin as a snapshot's. -/
def snapsF (fs : List Fl) : List ByteArray := (namesF fs).filter fun s => !otherN [sFront] s
theorem mem_snaps {fs : List Fl} {x : ByteArray} : x ∈ snapsF fs ↔ (∃ f ∈ fs, f.name = x) ∧ hasP x sFront = true := by
  unfold snapsF namesF otherN
  simp
theorem snaps_nodup {fs : List Fl} (h : Asc fs) : (snapsF fs).Nodup := h.names.filter _
theorem isSome_of_mem {fs : List Fl} {f : Fl} (hf : f ∈ fs) : (getF fs f.name).isSome = true := by
  cases hg : getF fs f.name with
  | none => exact absurd rfl (getF_none hg f hf)
  | some _ => rfl
def FlsOk (fs : List Fl) : Prop := ∀ f ∈ fs, mayN f.name = true
/-- What a Save makes of the files, step by step. -/
def g2 (n : Nat) (fs : List Fl) : List Fl := delF (delF fs (nameN n)) sFresh
def g3 (n : Nat) (d : ByteArray) (fs : List Fl) : List Fl := putF (g2 n fs) ⟨nameN n, 0, fileB n d, 0⟩
def g4 (n : Nat) (d : ByteArray) (fs : List Fl) : List Fl := updF (g3 n d fs) (nameN n) keepAll
def g5 (n : Nat) (d : ByteArray) (fs : List Fl) : List Fl := putF (g4 n d fs) ⟨sFresh, 0, markB n, 0⟩
def g6 (n : Nat) (d : ByteArray) (fs : List Fl) : List Fl := updF (g5 n d fs) sFresh keepAll
def freshF (n : Nat) : Fl := ⟨sFresh, 0, markB n, ((markB n).size : Int)⟩
def markF (n : Nat) : Fl := ⟨sMark, 0, markB n, ((markB n).size : Int)⟩
def fileF (n : Nat) (d : ByteArray) : Fl := ⟨nameN n, 0, fileB n d, ((fileB n d).size : Int)⟩
def g7 (n : Nat) (d : ByteArray) (fs : List Fl) : List Fl := renF (g6 n d fs) sFresh sMark (freshF n)
def saveOps (n : Nat) (d : ByteArray) (fs : List Fl) : List (List Fl → List Fl) :=
  [fun fs => delF fs (nameN n), fun fs => delF fs sFresh, fun fs => putF fs ⟨nameN n, 0, fileB n d, 0⟩, fun fs => updF fs (nameN n) keepAll, fun fs => putF fs ⟨sFresh, 0, markB n, 0⟩, fun fs => updF fs sFresh keepAll, fun fs => renF fs sFresh sMark (freshF n)] ++ delOps (nameN n) (snapsF (g7 n d fs))
theorem getF_g2 (n : Nat) (fs : List Fl) (x : ByteArray) : getF (g2 n fs) x = if x = sFresh then none else if x = nameN n then none else getF fs x := by unfold g2; rw [getF_del, getF_del]
theorem getF_g3 (n : Nat) (d : ByteArray) (fs : List Fl) (x : ByteArray) : getF (g3 n d fs) x = if x = nameN n then some ⟨nameN n, 0, fileB n d, 0⟩ else getF (g2 n fs) x := by unfold g3; rw [getF_put]
theorem getF_g4 (n : Nat) (d : ByteArray) (fs : List Fl) (x : ByteArray) : getF (g4 n d fs) x = if x = nameN n then some (fileF n d) else getF (g2 n fs) x := by
  unfold g4
  rw [getF_upd _ _ keepAll (fun _ => rfl), getF_g3]
  by_cases h : x = nameN n
  · rw [if_pos h, if_pos h, if_pos h]; rfl
  · rw [if_neg h, if_neg h, if_neg h]
theorem getF_g5 (n : Nat) (d : ByteArray) (fs : List Fl) (x : ByteArray) : getF (g5 n d fs) x = if x = sFresh then some ⟨sFresh, 0, markB n, 0⟩ else getF (g4 n d fs) x := by unfold g5; rw [getF_put]
theorem getF_g6 (n : Nat) (d : ByteArray) (fs : List Fl) (x : ByteArray) : getF (g6 n d fs) x = if x = sFresh then some (freshF n) else getF (g4 n d fs) x := by
  unfold g6
  rw [getF_upd _ _ keepAll (fun _ => rfl), getF_g5]
  by_cases h : x = sFresh
  · rw [if_pos h, if_pos h, if_pos h]; rfl
  · rw [if_neg h, if_neg h, if_neg h]
theorem getF_g7 (n : Nat) (d : ByteArray) (fs : List Fl) (x : ByteArray) : getF (g7 n d fs) x = if x = sMark then some (markF n) else if x = sFresh then none else getF (g4 n d fs) x := by
  unfold g7 renF
  rw [getF_put, getF_del, getF_g6]
  by_cases h : x = sMark
  · rw [if_pos h, if_pos h]; rfl
  · rw [if_neg h, if_neg h]
    by_cases h2 : x = sFresh
    · rw [if_pos h2, if_pos h2]
    · rw [if_neg h2, if_neg h2, if_neg h2]
theorem g2_asc (n : Nat) {fs : List Fl} (h : Asc fs) : Asc (g2 n fs) := (h.del _).del _
theorem g4_asc (n : Nat) (d : ByteArray) {fs : List Fl} (h : Asc fs) : Asc (g4 n d fs) := Asc.of_names ((g2_asc n h).put _) (updF_names _ _ _ (fun _ => rfl))
theorem g6_asc (n : Nat) (d : ByteArray) {fs : List Fl} (h : Asc fs) : Asc (g6 n d fs) := Asc.of_names ((g4_asc n d h).put _) (updF_names _ _ _ (fun _ => rfl))
theorem g7_asc (n : Nat) (d : ByteArray) {fs : List Fl} (h : Asc fs) : Asc (g7 n d fs) := ((g6_asc n d h).del _).put _
theorem g2_len (n : Nat) (fs : List Fl) : (g2 n fs).length ≤ fs.length := Nat.le_trans (delF_le _ _) (delF_le _ _)
theorem g4_len (n : Nat) (d : ByteArray) (fs : List Fl) : (g4 n d fs).length ≤ fs.length + 1 := by
  unfold g4
  rw [updF_len]
  have h1 := putF_le (g2 n fs) ⟨nameN n, 0, fileB n d, 0⟩
  have h2 := g2_len n fs
  unfold g3
  omega
theorem g2_used (n : Nat) (fs : List Fl) : usedF (g2 n fs) ≤ usedF fs := Nat.le_trans (usedF_del _ _) (usedF_del _ _)
theorem g4_used (n : Nat) (d : ByteArray) (fs : List Fl) : usedF (g4 n d fs) ≤ (fileB n d).size + usedF fs := by
  unfold g4
  rw [usedF_upd _ _ keepAll (fun _ => rfl)]
  have h1 := usedF_put (g2 n fs) ⟨nameN n, 0, fileB n d, 0⟩
  have h2 := g2_used n fs
  unfold g3
  show usedF (putF (g2 n fs) ⟨nameN n, 0, fileB n d, 0⟩) ≤ _
  have h3 : ((⟨nameN n, 0, fileB n d, 0⟩ : Fl).data.size) = (fileB n d).size := rfl
  omega
theorem fileB_size (n : Nat) (d : ByteArray) (h : d.size ≤ 960000) : (fileB n d).size ≤ 970000 := by
  have h1 := Crc.fileL_length n d.data.toList
  have h2 : d.data.toList.length = d.size := toList_size d
  show (Crc.fileL n d.data.toList).length ≤ _
  omega
theorem markB_size (n : Nat) : (markB n).size ≤ 21 := Crc.markL_length n
theorem g7_names {n : Nat} {d : ByteArray} {fs : List Fl} (h : FlsOk fs) : FlsOk (g7 n d fs) := by
  intro f hf
  unfold g7 renF at hf
  rcases mem_putF.1 hf with rfl | ⟨hf, _⟩
  · rfl
  · have hf := (mem_delF.1 hf).1
    unfold g6 at hf
    obtain ⟨x, hx, rfl⟩ := List.mem_map.1 hf
    have key : ∀ y ∈ g5 n d fs, mayN y.name = true := by
      intro y hy
      unfold g5 at hy
      rcases mem_putF.1 hy with rfl | ⟨hy, _⟩
      · rfl
      · unfold g4 at hy
        obtain ⟨z, hz, rfl⟩ := List.mem_map.1 hy
        have key2 : ∀ y ∈ g3 n d fs, mayN y.name = true := by
          intro y hy
          unfold g3 at hy
          rcases mem_putF.1 hy with rfl | ⟨hy, _⟩
          · exact nameN_may n
          · unfold g2 at hy
            exact h y (mem_delF.1 (mem_delF.1 hy).1).1
        show mayN (if sameN z.name (nameN n) = true then keepAll z else z).name = true
        split
        · exact key2 z hz
        · exact key2 z hz
    show mayN (if sameN x.name sFresh = true then keepAll x else x).name = true
    split
    · exact key x hx
    · exact key x hx
theorem save_runs (s : DS) (n : Nat) (d : ByteArray) (hA : Asc s.files) (hO : FlsOk s.files) (hl : s.files.length < 98) (hd : d.size ≤ 960000) (hfree : ((fileB n d).size : Int) + ((markB n).size : Int) ≤ freeD s) : stepsD (saveL n d) s = runsD (saveOps n d s.files) s := by
  unfold saveL saveOps
  unfold freeD at hfree
  have hfs := fileB_size n d hd
  have hms := markB_size n
  refine stepsD_cons (drop_op s _ (nameN_may n)) fun t1 f1 r1 => ?_
  refine stepsD_cons (drop_op t1 _ sFresh_may) fun t2 f2 r2 => ?_
  rw [f1] at f2
  have e2 : t2.files = g2 n s.files := f2
  have u2 := g2_used n s.files
  have l2 := g2_len n s.files
  refine stepsD_cons (app_op t2 (nameN n) (fileB n d) (nameN_may n) (by rw [e2, getF_g2, if_neg (ne_fresh n), if_pos rfl]) (by omega) (by rw [e2]; omega) (by unfold freeD; rw [e2, r2, r1]; omega)) fun t3 f3 r3 => ?_
  rw [e2] at f3
  have e3 : t3.files = g3 n d s.files := f3
  refine stepsD_cons (sync_op t3 (nameN n) (nameN_may n) (by rw [e3, getF_g3, if_pos rfl]; rfl)) fun t4 f4 r4 => ?_
  rw [e3] at f4
  have e4 : t4.files = g4 n d s.files := f4
  have u4 := g4_used n d s.files
  have l4 := g4_len n d s.files
  refine stepsD_cons (app_op t4 sFresh (markB n) sFresh_may (by rw [e4, getF_g4, if_neg (fun e => ne_fresh n e.symm), getF_g2, if_pos rfl]) (by omega) (by rw [e4]; omega) (by unfold freeD; rw [e4, r4, r3, r2, r1]; omega)) fun t5 f5 r5 => ?_
  rw [e4] at f5
  have e5 : t5.files = g5 n d s.files := f5
  refine stepsD_cons (sync_op t5 sFresh sFresh_may (by rw [e5, getF_g5, if_pos rfl]; rfl)) fun t6 f6 r6 => ?_
  rw [e5] at f6
  have e6 : t6.files = g6 n d s.files := f6
  refine stepsD_cons (rename_op t6 sFresh sMark sFresh_may sMark_may (freshF n) (by rw [e6, getF_g6, if_pos rfl])) fun t7 f7 r7 => ?_
  rw [e6] at f7
  have e7 : t7.files = g7 n d s.files := f7
  have hn : namesD t7 [sFront] = snapsF (g7 n d s.files) := by unfold namesD snapsF; rw [e7]
  have hor := others_runs (nameN n) (snapsF (g7 n d s.files)) t7 0 (snaps_nodup (g7_asc n d hA)) (fun x hx => by
    obtain ⟨⟨f, hf, rfl⟩, _⟩ := mem_snaps.1 hx
    exact ⟨g7_names hO f hf, by rw [e7]; exact isSome_of_mem hf⟩)
  have h8 : st8 n t7 = runsD (delOps (nameN n) (snapsF (g7 n d s.files))) t7 := by
    unfold st8 othersD
    rw [hn, hor]
  unfold stepsD
  rw [h8]
  unfold stepsD
  split
  · rename_i h; exact Prod.ext rfl h.symm
  · rfl
theorem after_save (n : Nat) (d : ByteArray) (fs : List Fl) : afterF (saveOps n d fs) fs = afterF (delOps (nameN n) (snapsF (g7 n d fs))) (g7 n d fs) := by
  unfold saveOps
  rw [afterF_append]
  rfl
/-- The files of a snapshot, with its mark, and nothing else. -/
def cleanF (n : Nat) (d : ByteArray) : List Fl := [markF n, fileF n d]
theorem clean_asc (n : Nat) (d : ByteArray) : Asc (cleanF n d) := by
  unfold cleanF Asc
  refine List.pairwise_cons.2 ⟨fun y hy => ?_, List.pairwise_singleton _ _⟩
  rw [List.mem_singleton] at hy
  subst hy
  show lessN sMark (nameN n) = true
  rw [lessN_lt]
  show ([109, 97, 114, 107] : List UInt8) < Crc.nameL n
  unfold Crc.nameL
  show (109 : UInt8) :: _ < (115 : UInt8) :: _
  exact List.cons_lt_cons_iff.2 (.inl (by decide))
theorem getF_clean (n : Nat) (d x : ByteArray) : getF (cleanF n d) x = if x = sMark then some (markF n) else if x = nameN n then some (fileF n d) else none := by
  unfold cleanF
  rw [getF_cons, getF_cons, getF_nil, show (markF n).name = sMark from rfl, show (fileF n d).name = nameN n from rfl]
  by_cases h1 : x = sMark
  · rw [if_pos h1.symm, if_pos h1]
  · rw [if_neg (fun e => h1 e.symm), if_neg h1]
    by_cases h2 : x = nameN n
    · rw [if_pos h2.symm, if_pos h2]
    · rw [if_neg (fun e => h2 e.symm), if_neg h2]
/-- Files of which each is a mark, a fresh one, or a snapshot's. -/
def OnlyN (fs : List Fl) : Prop := ∀ f ∈ fs, f.name = sMark ∨ f.name = sFresh ∨ hasP f.name sFront = true
theorem only_get {fs : List Fl} (h : OnlyN fs) {x : ByteArray} (h1 : x ≠ sMark) (h2 : x ≠ sFresh) (h3 : hasP x sFront = false) : getF fs x = none := by
  cases hg : getF fs x with
  | none => rfl
  | some f =>
    have h4 := getF_some hg
    rcases h f h4.1 with h5 | h5 | h5
    · exact absurd (h4.2.symm.trans h5) h1
    · exact absurd (h4.2.symm.trans h5) h2
    · rw [h4.2, h3] at h5; cases h5
theorem saved_files (n : Nat) (d : ByteArray) (fs : List Fl) (hA : Asc fs) (hO : OnlyN fs) : afterF (saveOps n d fs) fs = cleanF n d := by
  rw [after_save]
  refine Asc.ext (after_asc _ _ _ (g7_asc n d hA)) (clean_asc n d) fun x => ?_
  rw [getF_after, getF_clean, getF_g7, getF_g4, getF_g2]
  by_cases h1 : x = sMark
  · subst h1
    rw [if_neg (fun h => by have := (mem_snaps.1 h.1).2; rw [mark_front] at this; cases this), if_pos rfl]
    rfl
  · rw [if_neg h1, if_neg h1]
    by_cases h2 : x = sFresh
    · subst h2
      have hm : ¬ (sFresh ∈ snapsF (g7 n d fs) ∧ sFresh ≠ nameN n) := fun h => by have := (mem_snaps.1 h.1).2; rw [fresh_front] at this; cases this
      rw [if_neg hm, if_pos rfl, if_neg (fun e => ne_fresh n e.symm)]
    · rw [if_neg h2, if_neg h2]
      by_cases h3 : x = nameN n
      · rw [if_pos h3, if_pos h3, if_neg (fun h => h.2 h3)]
      · rw [if_neg h3, if_neg h3, if_neg h3]
        by_cases h4 : hasP x sFront = true
        · split
          · rfl
          · rename_i h5
            cases hg : getF fs x with
            | none => rfl
            | some f =>
              exfalso
              apply h5
              refine ⟨mem_snaps.2 ⟨?_, h4⟩, h3⟩
              have hg7 : getF (g7 n d fs) x = some f := by rw [getF_g7, if_neg h1, if_neg h2, getF_g4, if_neg h3, getF_g2, if_neg h2, if_neg h3, hg]
              exact ⟨f, (getF_some hg7).1, (getF_some hg7).2⟩
        · rw [Bool.not_eq_true] at h4
          rw [only_get hO h1 h2 h4]
          split <;> rfl
end Go.Proofs.YtcbbdkennmopdaaGreatDoor.PK
/- snap: framed, pieces, a snapshot's file, what it needs. -/
namespace Go.Proofs.YtcbbdkennmopdaaGreatDoor.PK
open Go.RowKit Go.Proofs.YtcbbdkennmopdaaGreatDoorW.PrintWords Go.Proofs.YtcbbdkennmopdaaGreatDoorW.PrintLast Go.Proofs.YtcbbdkennmopdaaGreatDoorW.PrintMore
open Go.Maps
theorem framed_calls (s : ByteArray) (w : World) (hT : SumW.Tab w) (hs : s.size ≤ 65536) : Calls Tryz.prog 63 #[.string s] w fun e w' => e = .returned (.string (Crc.mkB (Crc.frame s.data.toList))) ∧ Below w.heap.size w w' := by
  refine PA.snap_framed.calls 20 s _ w hT ?_
  unfold PA.snap_framed.f
  have hj : Crc.joined [s] = s.data.toList := PA.joined_one s
  rw [PA.frame_at [s] (by rw [hj]; exact hs) (by simp) 20 (by simp), Option.bind_some, hj]
theorem pieces_l0 (m : Nat) : ∀ (s : ByteArray) (acc : List ByteArray) (k : Nat), s.size ≤ 60000 * m → m + 1 ≤ k → acc.length + m < 1000000 → PA.snap_pieces.l0 k s acc = some (acc ++ (Crc.cutsL s.data.toList).map Crc.mkB) := by
  induction m with
  | zero =>
    intro s acc k hs hk ha
    obtain ⟨k, rfl⟩ : ∃ j, k = j + 1 := ⟨k - 1, by omega⟩
    have h0 : s.data.toList = [] := List.eq_nil_of_length_eq_zero (by rw [toList_size]; omega)
    unfold PA.snap_pieces.l0
    rw [if_pos (by rw [ByteArray.toList_eq]; exact h0), h0]
    simp [Crc.cutsL_nil]
  | succ m ih =>
    intro s acc k hs hk ha
    obtain ⟨k, rfl⟩ : ∃ j, k = j + 1 := ⟨k - 1, by omega⟩
    unfold PA.snap_pieces.l0
    by_cases h0 : s.data.toList = []
    · rw [if_pos (by rw [ByteArray.toList_eq]; exact h0), h0]
      simp [Crc.cutsL_nil]
    · have hl := toList_size s
      have hmn : mn (s.size : Int) 60000 = ((min s.size 60000 : Nat) : Int) := by unfold mn; split <;> omega
      rw [if_neg (by rw [ByteArray.toList_eq]; exact h0), hmn, if_pos (by omega), if_pos (by omega), if_pos (by omega), Int.toNat_natCast, ih _ _ k (by rw [ByteArray.size_extract]; omega) (by omega) (by simp; omega)]
      rw [Crc.cutsL_step _ h0, PA.drop_ext, PA.ext_mkB, List.drop_zero, Crc.mkB_list]
      have e1 : s.data.toList.take (min s.size 60000) = s.data.toList.take 60000 := by
        rcases Nat.le_total s.size 60000 with h | h
        · rw [Nat.min_eq_left h, List.take_of_length_le (by omega), List.take_of_length_le (by omega)]
        · rw [Nat.min_eq_right h]
      have e2 : s.data.toList.drop (min s.size 60000) = s.data.toList.drop 60000 := by
        rcases Nat.le_total s.size 60000 with h | h
        · rw [Nat.min_eq_left h, List.drop_of_length_le (by omega), List.drop_of_length_le (by omega)]
        · rw [Nat.min_eq_right h]
      rw [e1, e2]
      simp
theorem pieces_calls (s : ByteArray) (w : World) (hs : s.size ≤ 1000000) : Calls Tryz.prog 109 #[.string s] w fun e w' => ∃ v, e = .returned v ∧ Kd.R Kd.string 9 w' w.heap.size (fun _ => True) v ((Crc.cutsL s.data.toList).map Crc.mkB) ∧ Below w.heap.size w w' := by
  refine PA.snap_pieces.calls 30 s _ w ?_
  unfold PA.snap_pieces.f
  rw [pieces_l0 20 s [] 30 (by omega) (by omega) (by simp), List.nil_append]
theorem intC_blk {W : World} {b t : Nat} {l : List Int} (hb : W.heap[b]? = some (.cells (l.map (Value.int .i64)).toArray t (0, 0))) (hl : l.length ≤ 1000000) : Kd.C (Kd.int .i64) W (some ⟨b, 0, none⟩) l.length l := by
  refine Kd.C_of_reads (d := (0 : Int)) ⟨rfl, by omega, fun _ => ⟨_, rfl, fun j hj => ?_⟩⟩
  rw [add_plain, blk_cell hb]
  simp [List.getD, hj]
theorem cell_held {K : Nat → Prop} {w w' : World} (h : Held K w w') (p : Addr) (hk : K p.block) : w'.cell? p = w.cell? p := by
  unfold World.cell?
  rw [h p.block hk]
theorem add_block (a : Addr) (i : Nat) : (a.add i).block = a.block := by unfold Addr.add; split <;> rfl
theorem strCells_mkB (l : List UInt8) : Lib.strCells (Crc.mkB l) = Lib.byteCells l := rfl
theorem byteCells_append (a b : List UInt8) : Lib.byteCells (a ++ b) = Lib.byteCells a ++ Lib.byteCells b := List.map_append
theorem frames_take (l : List (List UInt8)) (i : Nat) (h : i < l.length) : Crc.framesL (l.take (i + 1)) = Crc.framesL (l.take i) ++ Crc.frame l[i] := by
  rw [List.take_succ_eq_append_getElem h, Crc.framesL_snoc]
theorem frames_take_le (l : List (List UInt8)) (i : Nat) : (Crc.framesL (l.take i)).length ≤ (Crc.framesL l).length := by
  have : Crc.framesL l = Crc.framesL (l.take i) ++ Crc.framesL (l.drop i) := by
    unfold Crc.framesL
    rw [← List.flatMap_append, List.take_append_drop]
  rw [this, List.length_append]
  omega
set_option maxHeartbeats 4000000 in
set_option maxRecDepth 100000 in
theorem file_calls (n : Nat) (d : ByteArray) (w : World) (hT : SumW.Tab w) (hn : n ≤ 99999999) (hd : d.size ≤ 960000) : Calls Tryz.prog 60 #[.int .i64 (n : Int), .string d] w fun e w' => e = .returned (.string (fileB n d)) ∧ Below w.heap.size w w' := by
  have HTB : Aside0 (∀ w', Below w.heap.size w w' → SumW.Tab w') := ⟨fun w' hb => hT.below hb hT.lt⟩
  clear hT
  obtain ⟨ps, hps⟩ : ∃ ps, ps = Crc.cutsL d.data.toList := ⟨_, rfl⟩
  have hpl : ps.length ≤ 17 := by
    rw [hps, Crc.cutsL_k d.data.toList 17 (by rw [toList_size]; omega)]
    exact Crc.cutsK_count 17 _
  have HPE : Aside0 (∀ x ∈ ps, x.length ≤ 60000) := ⟨fun x hx => Crc.cutsK_each _ d.data.toList x (by rw [hps] at hx; exact hx)⟩
  have hfl : (Crc.fileL n d.data.toList).length ≤ 970000 := fileB_size n d hd
  obtain ⟨hdr, hhd⟩ : ∃ x, x = Crc.numL n ++ Crc.numL d.data.toList.length := ⟨_, rfl⟩
  have hhl : hdr.length ≤ 18 := by
    rw [hhd, List.length_append]
    have h1 := Crc.numL_length n
    have h2 := Crc.numL_length d.data.toList.length
    omega
  have HF : Aside0 (Crc.fileL n d.data.toList = Crc.frame hdr ++ Crc.framesL ps) := ⟨by rw [hhd, hps]; rfl⟩
  have HNS : Aside0 (numsL [(n : Int), (d.size : Int)] = hdr) := ⟨by
    rw [hhd, toList_size]
    simp [numsL]⟩
  have HPC : Aside0 (∀ w1, Calls Tryz.prog 109 #[.string d] w1 fun e w' => ∃ v, e = .returned v ∧ Kd.R Kd.string 9 w' w1.heap.size (fun _ => True) v (ps.map Crc.mkB) ∧ Below w1.heap.size w1 w') := ⟨fun w1 => by rw [hps]; exact pieces_calls d w1 (by omega)⟩
  have hbig : (Crc.frame hdr ++ Crc.framesL ps).length ≤ 970000 := by rw [← HF.out]; exact hfl
  clear hps hhd hfl
  go_enter Tryz.func60, Tryz.ntmps60
  go_wp2_with fail
  refine (sizes_calls (some ⟨w.heap.size + 1, 0, none⟩) 2 [(n : Int), (d.size : Int)] _ (intC_blk (l := [(n : Int), (d.size : Int)]) (blk_new2 w _ _) (by simp)) (fun i hi => by
    have hi2 : i < 2 := hi
    match i, hi2 with
    | 0, _ => exact ⟨by show (0 : Int) ≤ (n : Int); omega, by show (n : Int) ≤ _; omega⟩
    | 1, _ => exact ⟨by show (0 : Int) ≤ (d.size : Int); omega, by show (d.size : Int) ≤ _; omega⟩) (by simp)).mono ?_
  rintro e w1 ⟨rfl, hb1⟩
  rw [HNS.out]
  have hb1' : Below w.heap.size w w1 := below_step (below_alloc (below_alloc (Below.refl _ _) _) _) hb1
  have hk1 : w1.heap[w.heap.size]? = some (.cells #[.pointer none, .slice none 0 0] 140 (0, 0)) := by
    have hlt : w.heap.size < ((w.alloc (.cells #[.pointer none, .slice none 0 0] 140)).alloc (.cells #[.int .i64 (n : Int), .int .i64 (d.size : Int)] 3)).heap.size := by rw [alloc_size, alloc_size]; omega
    have hone : ∀ o : Obj, ((w.alloc (.cells #[.pointer none, .slice none 0 0] 140)).alloc o).heap[w.heap.size]? = (w.alloc (.cells #[.pointer none, .slice none 0 0] 140)).heap[w.heap.size]? := fun o => (below_alloc (Below.refl _ (w.alloc (.cells #[.pointer none, .slice none 0 0] 140))) o).block _ (by rw [alloc_size]; exact Nat.lt_succ_self _)
    rw [hb1.block _ hlt, hone]
    exact blk_new w _
  have HB1 := Aside0.mk hb1'
  have HK1 := Aside0.mk hk1
  clear hb1 hb1' hk1
  go_wp2_with fail
  refine (framed_calls (Crc.mkB hdr) w1 (HTB.out w1 HB1.out) (by rw [Crc.mkB_size]; omega)).mono ?_
  rintro e w2 ⟨rfl, hb2⟩
  rw [Crc.mkB_list]
  have HB2 := Aside0.mk (below_step HB1.out hb2)
  have HBL2 : Aside0 (Bld w.heap.size w.heap.size (fun _ => False) [] w2) := ⟨⟨.inl ⟨Nat.le_refl _, .slice none 0 0, (hb2.block _ (blk_lt HK1.out)).trans HK1.out, ⟨rfl, .inl ⟨rfl, rfl⟩⟩, fun e => by cases e⟩, fun k hk => hk.elim⟩⟩
  obtain ⟨fh, hfh⟩ : ∃ x, x = Crc.frame hdr := ⟨_, rfl⟩
  have hfl : fh.length ≤ 30 := by rw [hfh, Crc.frame_length]; omega
  rw [← hfh] at hbig ⊢
  have HFH := Aside0.mk hfh
  clear hb2 HB1 HK1 hfh
  go_wp2_with fail
  refine (WriteString_calls w.heap.size w.heap.size (fun _ => False) [] (Crc.mkB fh) w2 HBL2.out (by rw [Crc.mkB_size]; simp; omega) HB2.out.size).mono ?_
  rintro e w3 ⟨rfl, hbl3, hb3, _⟩
  rw [List.nil_append, strCells_mkB] at hbl3
  have HB3 := Aside0.mk (HB2.out.trans hb3)
  have HBL3 := Aside0.mk hbl3
  clear hbl3 hb3 HB2 HBL2
  go_wp2_with fail
  refine (HPC.out w3).mono ?_
  rintro e w4 ⟨v, rfl, hr4, hb4⟩
  have hml : (ps.map Crc.mkB).length = ps.length := List.length_map _
  obtain ⟨A, c, rfl⟩ := Kd.R_slice hr4
  have hC4 := (Kd.R_reads' hr4).2.2
  have HB4 := Aside0.mk (below_step HB3.out hb4)
  obtain ⟨K, hK⟩ : ∃ K : Nat → Prop, K = fun k => ∃ ad : Addr, A = some ad ∧ 0 < ps.length ∧ ad.block = k := ⟨_, rfl⟩
  have HKA : Aside0 (∀ ad, A = some ad → 0 < ps.length → K ad.block) := ⟨fun ad e hp => by rw [hK]; exact ⟨ad, e, hp, rfl⟩⟩
  have HBL4 : Aside0 (Bld w.heap.size w.heap.size K (Lib.byteCells fh) w4) := ⟨⟨(HBL3.out.below hb4).is, fun k hk => by
    rw [hK] at hk
    obtain ⟨ad, rfl, hp, rfl⟩ := hk
    obtain ⟨g, cap, hv, hg1, hg2, cells, hg3⟩ := Kd.R_form hr4 (by rw [hml]; exact hp)
    injection hv with hv _ _
    injection hv with hv
    subst hv
    have h8 := HB3.out.size
    have h7 : w.heap.size < w3.heap.size := by
      rcases HBL3.out.is with ⟨_, _, h, _⟩ | ⟨_, _, h, _⟩
      · exact blk_lt h
      · exact blk_lt h
    refine ⟨hg2, by show g ≠ _; omega, fun cs he => ?_⟩
    rw [hg3] at he
    injection he with he
    injection he with _ he
    exact absurd he (by decide)⟩⟩
  rw [hml] at hC4 ⊢
  have HC4 := Aside0.mk hC4
  have HHD := Aside0.mk (Held.refl K w4)
  clear hr4 hb4 hC4 hK hml HBL3 HB3 HPC
  go_wp2_with fail
  go_loopg [18] (ps.length + 1) (fun kq v18 w' => ∃ i : Nat, v18 = .int .i64 i ∧ Aside0 (i + kq = ps.length + 1) ∧ i ≤ ps.length ∧ Aside0 (Bld w.heap.size w.heap.size K (Lib.byteCells (fh ++ Crc.framesL (ps.take i))) w') ∧ Aside0 (Below w.heap.size w w') ∧ Aside0 (Held K w4 w'))
  case atStart => exact ⟨0, rfl, ⟨by omega⟩, Nat.zero_le _, ⟨by rw [List.take_zero]; simpa [Crc.framesL] using HBL4.out⟩, HB4, HHD⟩
  case round =>
    clear HBL4 HB4 HHD
    obtain ⟨i, rfl, HK, hi, HBL, HB, HH⟩ := hrel
    by_cases hip : i < ps.length
    · have hml : (ps.map Crc.mkB).length = ps.length := List.length_map _
      have hC9 := HC4.out
      rw [← hml] at hC9
      obtain ⟨ad, e0, hx⟩ := Kd.at_string hC9 (i : Int) (by omega) (by rw [hml]; omega)
      subst e0
      have hkb := HKA.out ad rfl (by omega)
      simp only [Int.toNat_natCast] at hx
      have hx2 : wr.cell? (ad.add i) = some (.string (Crc.mkB ps[i])) := by
        have e9 : rdOf ByteArray.empty (ps.map Crc.mkB) (i : Int) = Crc.mkB ps[i] := by rw [rdS_at _ i (by rw [hml]; exact hip)]; simp
        rw [e9] at hx
        rw [← hx]
        exact cell_held HH.out _ (by rw [add_block]; exact hkb)
      obtain ⟨x, hxx⟩ : ∃ x, x = ps[i] := ⟨_, rfl⟩
      rw [← hxx] at hx2
      have hxl : x.length ≤ 60000 := HPE.out x (by rw [hxx]; exact List.getElem_mem hip)
      have HTK : Aside0 (Crc.framesL (ps.take (i + 1)) = Crc.framesL (ps.take i) ++ Crc.frame x) := ⟨by rw [hxx]; exact frames_take ps i hip⟩
      have HLE := Aside0.mk (frames_take_le ps i)
      clear hx hxx hC9 hml hkb
      cases gk with
      | zero => exact absurd HK.out (by omega)
      | succ k1 =>
        go_wp2_with fail
        refine (framed_calls (Crc.mkB x) wr (HTB.out wr HB.out) (by rw [Crc.mkB_size]; omega)).mono ?_
        rintro e w5 ⟨rfl, hb5⟩
        rw [Crc.mkB_list]
        have HBL5 := Aside0.mk (HBL.out.below hb5)
        have HB5 := Aside0.mk (below_step HB.out hb5)
        have HH5 := Aside0.mk (HH.out.trans (Held.below hb5 (fun k hk => (HBL.out.far k hk).1)))
        clear hb5
        go_wp2_with fail
        refine (WriteString_calls w.heap.size w.heap.size K _ (Crc.mkB (Crc.frame x)) w5 HBL5.out (by
          rw [Lib.byteCells_length, Crc.mkB_size, Crc.frame_length, List.length_append]
          have h1 := HLE.out
          rw [List.length_append] at hbig
          omega) HB5.out.size).mono ?_
        rintro e w6 ⟨rfl, hbl6, hb6, hh6⟩
        rw [strCells_mkB, ← byteCells_append, List.append_assoc, ← HTK.out] at hbl6
        have HBL6 := Aside0.mk hbl6
        have HB6 := Aside0.mk (HB5.out.trans hb6)
        have HH6 := Aside0.mk (HH5.out.trans hh6)
        clear hbl6 hb6 hh6
        go_wp2_with fail
        go_roundg k1
        case measure => have := HK.out; omega
        case rel => exact ⟨i + 1, by go_num, ⟨by have := HK.out; omega⟩, by omega, HBL6, HB6, HH6⟩
    · obtain rfl : i = ps.length := by omega
      go_wp2_with fail
      refine (Tryz.Builder_String_any w.heap.size w.heap.size _ wr HBL.out.is HB.out.size).mono ?_
      rintro e w7 ⟨rfl, hb7⟩
      have HB7 := Aside0.mk (HB.out.trans hb7)
      clear hb7
      go_wp2_with fail
      go_ret
      refine ⟨?_, HB7.out⟩
      unfold fileB
      rw [HF.out, ← HFH.out]
      rfl
end Go.Proofs.YtcbbdkennmopdaaGreatDoor.PK
/- snap: what a snapshot needs. -/
namespace Go.Proofs.YtcbbdkennmopdaaGreatDoor.PK
open Go.RowKit Go.Proofs.YtcbbdkennmopdaaGreatDoorW.PrintWords Go.Proofs.YtcbbdkennmopdaaGreatDoorW.PrintLast Go.Proofs.YtcbbdkennmopdaaGreatDoorW.PrintMore
open Go.Maps
theorem sizes1_calls (n : Nat) (w : World) (b : Nat) (hb : w.heap[b]? = some (.cells #[.int .i64 (n : Int)] 3 (0, 0))) (hn : n ≤ 99999999) : Calls Tryz.prog 64 #[.slice (some ⟨b, 0, none⟩) 1 1] w fun e w' => e = .returned (.string (Crc.mkB (Crc.numL n))) ∧ Below w.heap.size w w' := by
  have h := sizes_calls (some ⟨b, 0, none⟩) 1 [(n : Int)] w (intC_blk (l := [(n : Int)]) hb (by simp)) (fun i hi => by
    have hi2 : i < 1 := hi
    match i, hi2 with
    | 0, _ => exact ⟨by show (0 : Int) ≤ (n : Int); omega, by show (n : Int) ≤ _; omega⟩) (by simp)
  have e : numsL [(n : Int)] = Crc.numL n := by simp [numsL]
  rw [e] at h
  exact h
set_option maxHeartbeats 1000000 in
set_option maxRecDepth 100000 in
theorem need_calls (n : Nat) (d : ByteArray) (w : World) (hT : SumW.Tab w) (hn : n ≤ 99999999) (hd : d.size ≤ 960000) : Calls Tryz.prog 107 #[.int .i64 (n : Int), .string d] w fun e w' => e = .returned (.int .i64 (needN n d : Nat)) ∧ Below w.heap.size w w' := by
  have HTB : Aside0 (∀ w', Below w.heap.size w w' → SumW.Tab w') := ⟨fun w' hb => hT.below hb hT.lt⟩
  have HFC := Aside0.mk (file_calls n d w hT hn hd)
  clear hT
  have h1 := fileB_size n d hd
  have h2 := markB_size n
  have HN : Aside0 ((needN n d : Nat) = (fileB n d).size + (markB n).size) := ⟨rfl⟩
  obtain ⟨f, hf⟩ : ∃ f, f = fileB n d := ⟨_, rfl⟩
  obtain ⟨m, hm⟩ : ∃ m, m = markB n := ⟨_, rfl⟩
  rw [← hf] at HFC h1
  rw [← hm] at h2
  rw [← hf, ← hm] at HN
  have HM : Aside0 (m = Crc.mkB (Crc.frame (Crc.numL n))) := ⟨hm⟩
  have hnl := Crc.numL_length n
  have hw : IntKind.i64.wrap ((f.size : Int) + (m.size : Int)) = (f.size : Int) + (m.size : Int) := by rw [IntKind.wrap_i64]; omega
  clear hf hm
  go_enter Tryz.func107, Tryz.ntmps107
  go_wp2_with fail
  refine HFC.out.mono ?_
  rintro e w1 ⟨rfl, hb1⟩
  have HB1 := Aside0.mk hb1
  clear hb1
  go_wp2_with fail
  refine (sizes1_calls n _ w1.heap.size (blk_new w1 _) hn).mono ?_
  rintro e w2 ⟨rfl, hb2⟩
  have HB2 := Aside0.mk (below_step HB1.out (below_step (below_alloc (Below.refl _ _) _) hb2))
  clear hb2 HB1
  go_wp2_with fail
  refine (framed_calls _ w2 (HTB.out w2 HB2.out) (by rw [Crc.mkB_size]; omega)).mono ?_
  rintro e w3 ⟨rfl, hb3⟩
  rw [Crc.mkB_list, ← HM.out]
  have HB3 := Aside0.mk (below_step HB2.out hb3)
  clear hb3 HB2
  go_wp2_with fail
  go_ret
  exact ⟨by rw [HN.out]; simp, HB3.out⟩
set_option maxRecDepth 100000 in
theorem Need_calls (A : Option Addr) (c : Nat) (l : List ByteArray) (w : World) (hT : SumW.Tab w) (hC : Kd.C Kd.string w A l.length l) (hc : l.length ≤ c) (hl : l.length ≤ 1000000) (hs : sumS l ≤ 960000) : Calls Tryz.prog 53 #[.slice A l.length c] w fun e w' => e = .returned (.int .i64 (needN 99999999 (catS l) : Nat)) ∧ Below w.heap.size w w' := by
  have HTB : Aside0 (∀ w', Below w.heap.size w w' → SumW.Tab w') := ⟨fun w' hb => hT.below hb hT.lt⟩
  have HJ := Aside0.mk (strings_Join.calls A c l ⟨#[]⟩ (catS l) w hC hc (join_cat l (by omega) (by omega)))
  have hz : (catS l).size ≤ 960000 := by rw [catS_size]; exact hs
  clear hT hC
  generalize catS l = d at HJ hz ⊢
  generalize l.length = m at HJ hc hl ⊢
  go_enter Tryz.func53, Tryz.ntmps53
  go_wp2_with fail
  refine HJ.out.mono ?_
  rintro e w1 ⟨rfl, hb1⟩
  have HB1 := Aside0.mk hb1
  clear hb1
  go_wp2_with fail
  refine (need_calls 99999999 d w1 (HTB.out w1 HB1.out) (by decide) hz).mono ?_
  rintro e w2 ⟨rfl, hb2⟩
  have HB2 := Aside0.mk (below_step HB1.out hb2)
  clear hb2
  go_wp2_with fail
  go_ret
  exact ⟨rfl, HB2.out⟩
end Go.Proofs.YtcbbdkennmopdaaGreatDoor.PK
/- calc: a number as digits. -/
namespace Go.Proofs.YtcbbdkennmopdaaGreatDoor.Crc
/-- A number's digits, none nought ahead. -/
def decK : Nat → Nat → List UInt8
  | 0, _ => []
  | k + 1, n => if n = 0 then [] else decK k (n / 10) ++ [UInt8.ofNat (48 + n % 10)]
theorem decK_length : ∀ k n, (decK k n).length ≤ k
  | 0, _ => Nat.le_refl _
  | k + 1, n => by
    unfold decK
    split
    · exact Nat.zero_le _
    · have := decK_length k (n / 10)
      simp only [List.length_append, List.length_singleton]
      omega
theorem lowD_decK : ∀ k n, n < 10 ^ k → lowD k n = List.replicate (k - (decK k n).length) 48 ++ decK k n
  | 0, _, _ => rfl
  | k + 1, n, h => by
    unfold decK
    split
    · rename_i h0
      rw [h0, lowD_zero]
      simp
    · unfold lowD
      rw [lowD_decK k (n / 10) (by rw [Nat.pow_succ] at h; exact Nat.div_lt_of_lt_mul (by omega)), List.append_assoc, List.length_append, List.length_singleton]
      congr 2
      omega
theorem decK_lt (k : Nat) : ∀ n j, n < 10 ^ k → j ≤ k → (n / 10 ^ j ≠ 0 ↔ j < (decK k n).length) := by
  induction k with
  | zero =>
    intro n j h hj
    have : n = 0 := by simpa using h
    subst this
    simp [decK]
  | succ k ih =>
    intro n j hn hj
    unfold decK
    split
    · rename_i h0
      subst h0
      simp
    · rename_i h0
      rw [List.length_append, List.length_singleton]
      cases j with
      | zero => simp; omega
      | succ j =>
        have := ih (n / 10) j (by rw [Nat.pow_succ] at hn; exact Nat.div_lt_of_lt_mul (by omega)) (by omega)
        rw [Nat.div_div_eq_div_mul] at this
        rw [Nat.pow_succ, Nat.mul_comm, this]
        omega
theorem decK_get (k : Nat) : ∀ n j, n < 10 ^ k → j < (decK k n).length → (decK k n)[(decK k n).length - 1 - j]? = some (UInt8.ofNat (48 + n / 10 ^ j % 10)) := by
  induction k with
  | zero => intro n j _ h; simp [decK] at h
  | succ k ih =>
    intro n j hn hj
    unfold decK at hj ⊢
    by_cases h0 : n = 0
    · rw [if_pos h0] at hj; simp at hj
    · rw [if_neg h0] at hj ⊢
      rw [List.length_append, List.length_singleton] at hj ⊢
      cases j with
      | zero => rw [List.getElem?_append_right (by omega)]; simp
      | succ j =>
        have := ih (n / 10) j (by rw [Nat.pow_succ] at hn; exact Nat.div_lt_of_lt_mul (by omega)) (by omega)
        rw [Nat.div_div_eq_div_mul, Nat.mul_comm, ← Nat.pow_succ] at this
        rw [List.getElem?_append_left (by omega), ← this]
        congr 1
        omega
/-- A number as text, below 10 to the 8. -/
def decL (n : Nat) : List UInt8 := if n = 0 then [48] else decK 8 n
theorem pad_decL (n : Nat) (h : n ≤ 99999999) : (decL n).length ≤ 8 ∧ List.replicate (8 - (decL n).length) 48 ++ decL n = lowD 8 n := by
  unfold decL
  split
  · rename_i h0
    subst h0
    exact ⟨by decide, by decide⟩
  · exact ⟨decK_length 8 n, (lowD_decK 8 n (by omega)).symm⟩
end Go.Proofs.YtcbbdkennmopdaaGreatDoor.Crc
namespace Go.Proofs.YtcbbdkennmopdaaGreatDoor.PK
open Go.RowKit Go.Proofs.YtcbbdkennmopdaaGreatDoorW.PrintWords Go.Proofs.YtcbbdkennmopdaaGreatDoorW.PrintLast Go.Proofs.YtcbbdkennmopdaaGreatDoorW.PrintMore
open Go.Maps
set_option maxRecDepth 100000 in
theorem csize_calls (n : Nat) (w : World) (hn : n ≤ 9223372036854775807) : Calls Tryz.prog 121 #[.int .i64 (n : Int)] w fun e w' => e = .returned (.int .u64 (n : Int)) ∧ w = w' := by
  have hwu : IntKind.u64.wrap (n : Int) = (n : Int) := by rw [IntKind.wrap_u64]; omega
  have hng : ¬ ((n : Int) < 0) := by omega
  go_enter Tryz.func121, Tryz.ntmps121
  go_wp2
  go_ret
  exact ⟨rfl, rfl⟩
def digCells (j : Nat) (r : List UInt8) : List Value := List.replicate j (.int .u8 0) ++ r.map fun c => .int .u8 ((c.toNat : Nat) : Int)
theorem digCells_set (j : Nat) (r : List UInt8) (c : UInt8) : (digCells (j + 1) r).set j (.int .u8 ((c.toNat : Nat) : Int)) = digCells j (c :: r) := by
  unfold digCells
  rw [List.set_append_left _ _ (by simp), List.replicate_succ', List.set_append_right _ _ (by simp)]
  simp
theorem digCells_get (j : Nat) (r : List UInt8) (i : Nat) (h : i < r.length) : (digCells j r)[j + i]? = some (.int .u8 ((nb r).getD i 0)) := by
  unfold digCells
  rw [List.getElem?_append_right (by simp)]
  simp [nb, List.getD, h]
set_option maxHeartbeats 2000000 in
set_option maxRecDepth 100000 in
theorem print_calls (n : Nat) (w : World) (hn : n ≤ 99999999) : Calls Tryz.prog 82 #[.int .i64 (n : Int)] w fun e w' => e = .returned (.string (Crc.mkB (Crc.decL n))) ∧ Below w.heap.size w w' := by
  by_cases h0 : n = 0
  · subst h0
    go_enter Tryz.func82, Tryz.ntmps82
    go_wp2
    go_ret
    exact ⟨rfl, Below.refl _ _⟩
  · obtain ⟨ds, hds⟩ : ∃ ds, ds = Crc.decK 8 n := ⟨_, rfl⟩
    obtain ⟨L, hL⟩ : ∃ L, L = ds.length := ⟨_, rfl⟩
    have hL8 : L ≤ 8 := by rw [hL, hds]; exact Crc.decK_length 8 n
    have HLT : Aside0 (∀ j, j ≤ 8 → (n / 10 ^ j ≠ 0 ↔ j < L)) := ⟨fun j hj => by rw [hL, hds]; exact Crc.decK_lt 8 n j (by omega) hj⟩
    have HGET : Aside0 (∀ j, j < L → ds[L - 1 - j]? = some (UInt8.ofNat (48 + n / 10 ^ j % 10))) := ⟨fun j hj => by rw [hL, hds] at hj ⊢; exact Crc.decK_get 8 n j (by omega) hj⟩
    have HR : Aside0 (Crc.decL n = ds) := ⟨by rw [hds]; unfold Crc.decL; rw [if_neg h0]⟩
    have HLL := Aside0.mk hL
    clear hL hds
    have hnz : ¬ ((n : Int) = 0) := by omega
    have hng : ¬ ((n : Int) < 0) := by omega
    go_enter Tryz.func82, Tryz.ntmps82
    go_wp2_with fail
    refine (csize_calls n _ (by omega)).mono ?_
    rintro e w1 ⟨rfl, rfl⟩
    have HB1 := Aside0.mk (below_alloc (Below.refl w.heap.size w) (.cells (digCells 20 []).toArray 162))
    have HK1 := Aside0.mk (blk_new w (.cells (digCells 20 []).toArray 162))
    have HS1 : Aside0 (w.heap.size ≤ w.heap.size) := ⟨Nat.le_refl _⟩
    obtain ⟨k, hk⟩ : ∃ k, k = w.heap.size := ⟨_, rfl⟩
    have HKK := Aside0.mk hk
    rw [← hk] at HK1 ⊢
    clear hk
    generalize hW : w.alloc (.cells (digCells 20 []).toArray 162) = W at HB1 HK1
    have hW2 : w.alloc (.cells #[.int .u8 0, .int .u8 0, .int .u8 0, .int .u8 0, .int .u8 0, .int .u8 0, .int .u8 0, .int .u8 0, .int .u8 0, .int .u8 0, .int .u8 0, .int .u8 0, .int .u8 0, .int .u8 0, .int .u8 0, .int .u8 0, .int .u8 0, .int .u8 0, .int .u8 0, .int .u8 0] 162) = W := hW
    rw [hW2]
    clear hW hW2
    go_wp2_with fail
    go_loopg [4, 5] (L + 1) (fun kq v4 v5 w' => ∃ (j : Nat) (u a : Int), v4 = .int .i64 a ∧ v5 = .int .u64 u ∧ Aside0 (a = 20 - (j : Int)) ∧ Aside0 (u = ((n / 10 ^ j : Nat) : Int)) ∧ Aside0 (j + kq = L + 1) ∧ j ≤ L ∧ Aside0 (w'.heap[k]? = some (.cells (digCells (20 - j) (ds.drop (L - j))).toArray 162 (0, 0))) ∧ Aside0 (Below w.heap.size w w'))
    case atStart => exact ⟨0, _, _, rfl, rfl, ⟨by simp⟩, ⟨by simp⟩, ⟨by omega⟩, Nat.zero_le _, ⟨by rw [Nat.sub_zero, Nat.sub_zero, List.drop_of_length_le (by have := HLL.out; omega)]; exact HK1.out⟩, HB1⟩
    case round =>
      clear HK1 HB1
      obtain ⟨j, u, a, rfl, rfl, HA, HU, HK, hj, HBK, HB⟩ := hrel
      by_cases hjl : j < L
      · obtain ⟨q, hq⟩ : ∃ q, q = n / 10 ^ j := ⟨_, rfl⟩
        have hqn : q ≤ n := by rw [hq]; exact Nat.div_le_self _ _
        have hq0 : q ≠ 0 := by rw [hq]; exact (HLT.out j (by omega)).2 hjl
        obtain rfl : u = (q : Int) := by rw [hq]; exact HU.out
        have HQ := Aside0.mk hq
        clear hq
        obtain ⟨m, hm⟩ : ∃ m, m = 19 - j := ⟨_, rfl⟩
        have HM : Aside0 (20 - j = m + 1) := ⟨by omega⟩
        have hu : (q : Int) > 0 := by omega
        have hwa : IntKind.i64.wrap (a - 1) = (m : Int) := by rw [IntKind.wrap_i64]; have := HA.out; omega
        have hm20 : (m : Int) < 20 := by omega
        have hblk := HBK.out
        rw [HM.out] at hblk
        have hcell : wr.cell? ⟨k, m, none⟩ = some (.int .u8 0) := by
          rw [blk_cell hblk m, List.getElem?_toArray]
          unfold digCells
          rw [List.getElem?_append_left (by simp), List.getElem?_replicate, if_pos (by omega)]
        have hfrz : wr.frozen? ⟨k, m, none⟩ = false := blk_frozen hblk m
        have hwu : IntKind.u64.wrap (48 + (q : Int) % 10) = 48 + (q : Int) % 10 := by rw [IntKind.wrap_u64]; omega
        have hwb : IntKind.u8.wrap (48 + (q : Int) % 10) = 48 + (q : Int) % 10 := by rw [IntKind.wrap_u8]; omega
        have hwq : IntKind.u64.wrap ((q : Int) / 10) = (q : Int) / 10 := by rw [IntKind.wrap_u64]; omega
        clear hm hblk
        cases gk with
        | zero => exact absurd HK.out (by omega)
        | succ k1 =>
          go_wp2_with fail
          go_roundg k1
          case measure => have := HK.out; omega
          case rel =>
            have hlt : L - 1 - j < ds.length := by have := HLL.out; omega
            have hg := HGET.out j hjl
            rw [← HQ.out, List.getElem?_eq_getElem hlt] at hg
            have e1 : ds.drop (L - (j + 1)) = UInt8.ofNat (48 + q % 10) :: ds.drop (L - j) := by
              rw [show L - (j + 1) = L - 1 - j by omega, List.drop_eq_getElem_cons hlt, Option.some.inj hg, show L - 1 - j + 1 = L - j by omega]
            have e2 : (((UInt8.ofNat (48 + q % 10)).toNat : Nat) : Int) = 48 + (q : Int) % 10 := by rw [UInt8.toNat_ofNat']; omega
            refine ⟨j + 1, _, _, rfl, rfl, ⟨by have := HM.out; omega⟩, ⟨?_⟩, ⟨by have := HK.out; omega⟩, by omega, ⟨?_⟩, ⟨?_⟩⟩
            · rw [Nat.pow_succ, ← Nat.div_div_eq_div_mul, ← HQ.out]
              omega
            · have h9 := HBK.out
              rw [HM.out] at h9
              refine blk_put h9 m _ ?_
              rw [show 20 - (j + 1) = m by have := HM.out; omega, e1, ← digCells_set, e2]
              simp
            · exact HB.out.setCell (by rw [HKK.out]; exact Nat.le_refl _) _
      · obtain rfl : j = L := by omega
        have hz : n / 10 ^ j = 0 := by
          have := HLT.out j (by omega)
          omega
        obtain rfl : u = 0 := by rw [HU.out, hz]; rfl
        obtain ⟨m, hm⟩ : ∃ m, m = 20 - j := ⟨_, rfl⟩
        have HM := Aside0.mk hm
        obtain rfl : a = (m : Int) := by have := HA.out; omega
        have hm20 : m ≤ 20 := by omega
        have hng2 : ¬ ((n : Int) < 0) := by omega
        have hL1 : 0 < j := (HLT.out 0 (by omega)).1 (by rw [Nat.pow_zero, Nat.div_one]; exact h0)
        have hal : Tryz.prog.arrayLen 162 = 20 := by kernel_rfl
        have hsl : (Instr.sliceAt 162 (.pointer (some ⟨k, 0, none⟩)) (some (.int .i64 (m : Int))) none none).run Tryz.prog wr = .ok (.slice (some ⟨k, m, none⟩) j j) wr := by
          rw [run_sliceAt_array_l (P := Tryz.prog) wr 162 ⟨k, 0, none⟩ (by kernel_rfl) .i64 (m : Int) (by omega) (by rw [hal]; omega)]
          have hsz : (sizeOf (Tryz.prog.elem 162)).run Tryz.prog wr = .ok 1 wr := by kernel_rfl
          rw [hsz, hal]
          show Result.ok (slicedAt ⟨k, 0, none⟩ (m : Int).toNat 20 20 1) wr = _
          unfold slicedAt
          rw [if_neg (by omega), add_plain, Int.toNat_natCast, show 20 - m = j by omega, Nat.mul_one]
        have hcv : (convert 25 9 (.slice (some ⟨k, m, none⟩) j j)).run Tryz.prog wr = .ok (.string (Crc.mkB ds)) wr := by
          rw [← nb_str ds]
          refine run_convert_bytes_arg wr 25 5 Tryz.underlying25 Tryz.underlying5 k m j j (nb ds) (by rw [nb_length]; exact HLL.out.symm) (fun i hi => ?_) 9 Tryz.underlying9
          rw [blk_cell HBK.out (m + i), List.getElem?_toArray, Nat.sub_self, List.drop_zero, ← HM.out]
          exact digCells_get m ds i (by have := HLL.out; omega)
        clear hm hz
        go_wp2_with fail
        go_ret
        exact ⟨by rw [HR.out]; rfl, HB.out⟩
end Go.Proofs.YtcbbdkennmopdaaGreatDoor.PK
/- snap: the file of a snapshot. -/
namespace Go.Proofs.YtcbbdkennmopdaaGreatDoor.PK
open Go.RowKit Go.Proofs.YtcbbdkennmopdaaGreatDoorW.PrintWords Go.Proofs.YtcbbdkennmopdaaGreatDoorW.PrintLast Go.Proofs.YtcbbdkennmopdaaGreatDoorW.PrintMore
open Go.Maps
theorem repeat_one (c : UInt8) : ∀ k, Lib.repeatL [c] k = List.replicate k c := by
  intro k
  induction k with
  | zero => rfl
  | succ k ih =>
    rw [List.replicate_succ, ← ih]
    rfl
set_option maxRecDepth 100000 in
theorem Name_calls (n : Int) (w : World) : Calls Tryz.prog 22 #[.int .i64 n] w fun e w' => e = .returned (.string (nameS n)) ∧ Below w.heap.size w w' := by
  by_cases h : mayS n = true
  · have hh : 0 ≤ n ∧ n ≤ 99999999 := by unfold mayS at h; simpa using h
    have HR : Aside0 (nameS n = nameN n.toNat) := ⟨by unfold nameS; rw [if_pos h]⟩
    obtain ⟨m, rfl⟩ : ∃ m : Nat, n = (m : Int) := ⟨n.toNat, by omega⟩
    have hm : m ≤ 99999999 := by omega
    have hp := Crc.pad_decL m hm
    have h1 : ¬ ((m : Int) < 0) := by omega
    have h2 : ¬ ((m : Int) > 99999999) := by omega
    obtain ⟨s, hs⟩ : ∃ s, s = Crc.mkB (Crc.decL m) := ⟨_, rfl⟩
    have hsz : s.size = (Crc.decL m).length := by rw [hs]; rfl
    have HPC : Aside0 (∀ w1, Calls Tryz.prog 82 #[.int .i64 (m : Int)] w1 fun e w' => e = .returned (.string s) ∧ Below w1.heap.size w1 w') := ⟨fun w1 => by rw [hs]; exact print_calls m w1 hm⟩
    obtain ⟨z, hz⟩ : ∃ z, z = 8 - s.size := ⟨_, rfl⟩
    have hle : s.size ≤ 8 := by omega
    have hsub : IntKind.i64.wrap (8 - (s.size : Int)) = (z : Int) := by rw [IntKind.wrap_i64]; omega
    obtain ⟨r, hr⟩ : ∃ r, r = Crc.mkB (List.replicate z 48) := ⟨_, rfl⟩
    have hrs : r.size ≤ 8 := by rw [hr, Crc.mkB_size, List.length_replicate]; omega
    have HRP : Aside0 (∀ w1, Calls Tryz.prog 83 #[.string ⟨#[48]⟩, .int .i64 (z : Int)] w1 fun e w' => e = .returned (.string r) ∧ Below w1.heap.size w1 w') := ⟨fun w1 => by
      rw [hr]
      have h9 := Tryz.strings_Repeat ⟨#[48]⟩ z w1 (by omega) (by show 1 * z ≤ _; omega)
      rw [show (⟨#[48]⟩ : ByteArray).data.toList = [48] from rfl, repeat_one] at h9
      exact h9⟩
    have HF : Aside0 ((⟨#[115, 46]⟩ : ByteArray) ++ r ++ s = nameN m) := ⟨by
      rw [hr, hs, show (⟨#[115, 46]⟩ : ByteArray) = Crc.mkB [115, 46] from rfl, Crc.mkB_append, Crc.mkB_append, List.append_assoc, hz, hsz, hp.2]
      rfl⟩
    rw [HR.out, Int.toNat_natCast]
    clear h hh HR hp hs hsz hz hr
    go_enter Tryz.func22, Tryz.ntmps22
    go_wp2_with fail
    refine (HPC.out _).mono ?_
    rintro e w1 ⟨rfl, hb1⟩
    have HB1 := Aside0.mk hb1
    clear hb1
    go_wp2_with fail
    refine (HRP.out _).mono ?_
    rintro e w2 ⟨rfl, hb2⟩
    have HB2 := Aside0.mk (below_step HB1.out hb2)
    clear hb2
    go_wp2_with fail
    go_ret
    exact ⟨by rw [← HF.out]; rfl, HB2.out⟩
  · have hh : n < 0 ∨ 99999999 < n := by
      unfold mayS at h
      simp only [Bool.and_eq_true, decide_eq_true_eq, not_and] at h
      omega
    have HR : Aside0 (nameS n = sNone) := ⟨by unfold nameS; rw [if_neg h]⟩
    rw [HR.out]
    clear h HR
    by_cases h0 : n < 0
    · clear hh
      go_enter Tryz.func22, Tryz.ntmps22
      go_wp2
      go_ret
      exact ⟨rfl, Below.refl _ _⟩
    · have h1 : n > 99999999 := by omega
      clear hh
      go_enter Tryz.func22, Tryz.ntmps22
      go_wp2
      go_ret
      exact ⟨rfl, Below.refl _ _⟩
end Go.Proofs.YtcbbdkennmopdaaGreatDoor.PK
/- snap: Load. -/
namespace Go.Proofs.YtcbbdkennmopdaaGreatDoor.PK
open Go.RowKit Go.Proofs.YtcbbdkennmopdaaGreatDoorW.PrintWords Go.Proofs.YtcbbdkennmopdaaGreatDoorW.PrintLast Go.Proofs.YtcbbdkennmopdaaGreatDoorW.PrintMore
open Go.Maps
theorem allK_sum (k : Nat) : ∀ l : List UInt8, (Crc.allK k l).1.flatten.length ≤ l.length := by
  induction k with
  | zero => intro l; simp [Crc.allK]
  | succ k ih =>
    intro l
    unfold Crc.allK
    split
    · simp
    · split
      · rename_i h1 h2
        have hp := Crc.openL_pos _ h2
        have hle := Crc.openL_le l
        have h3 := ih (l.drop (Crc.openL l).2.1)
        rw [List.length_drop] at h3
        have h4 : (Crc.openL l).1.length ≤ (Crc.openL l).2.1 := by
          unfold Crc.openL
          split
          · simp
          · split
            · simp
            · split
              · simp
              · split
                · simp; omega
                · simp
        rw [List.flatten_cons, List.length_append]
        omega
      · simp
theorem allK_count (k : Nat) : ∀ l : List UInt8, (Crc.allK k l).1.length ≤ k := by
  induction k with
  | zero => intro l; simp [Crc.allK]
  | succ k ih =>
    intro l
    unfold Crc.allK
    split
    · simp
    · split
      · have := ih (l.drop (Crc.openL l).2.1)
        simp only [List.length_cons]
        omega
      · simp
theorem catS_mkB (l : List (List UInt8)) : catS (l.map Crc.mkB) = Crc.mkB l.flatten := by
  unfold catS Crc.mkB
  rw [List.map_map]
  congr 2
  rw [show ((fun x : ByteArray => x.data.toList) ∘ fun l : List UInt8 => (⟨l.toArray⟩ : ByteArray)) = id from funext fun x => by simp, List.map_id]
theorem dataB_no (n : Nat) (s : ByteArray) (h : (PA.allB s).2.2 ≠ 0 ∨ (PA.allB s).1.length = 0) : dataB n s = none := by
  unfold dataB Crc.dataL
  unfold PA.allB at h
  simp only [List.length_map] at h
  generalize Crc.allL s.data.toList = a at h ⊢
  obtain ⟨l, m, y⟩ := a
  match l, y, h with
  | [], _, _ => rfl
  | x :: r, 0, h => simp at h
  | x :: r, y + 1, _ => rfl
theorem dataB_yes (n : Nat) (s x : ByteArray) (l : List ByteArray) (h0 : (PA.allB s).2.2 = 0) (h1 : (PA.allB s).1 = x :: l) : dataB n s = (if (catS l).size ≤ 960000 ∧ fileB n (catS l) = s then some (catS l) else none) ∧ sumS l ≤ s.size ∧ l.length ≤ s.size := by
  have hsum := allK_sum s.data.toList.length s.data.toList
  have hcnt := allK_count s.data.toList.length s.data.toList
  unfold dataB Crc.dataL
  unfold PA.allB at h0 h1
  change (Crc.allL s.data.toList).1.flatten.length ≤ _ at hsum
  change (Crc.allL s.data.toList).1.length ≤ _ at hcnt
  rw [toList_size] at hsum hcnt
  generalize Crc.allL s.data.toList = a at h0 h1 hsum hcnt ⊢
  obtain ⟨zs, m, y⟩ := a
  dsimp only at h0 h1 hsum hcnt
  have hy : y = 0 := by omega
  subst hy
  match zs, h1 with
  | z :: r, h1 =>
    have hr : l = r.map Crc.mkB := by
      simp only [List.map_cons, List.cons.injEq] at h1
      exact h1.2.symm
    subst hr
    rw [catS_mkB]
    have e1 : (Crc.mkB r.flatten).size = r.flatten.length := Crc.mkB_size _
    have e2 : sumS (r.map Crc.mkB) = r.flatten.length := by rw [← catS_size, catS_mkB, e1]
    rw [e1, e2, List.length_map]
    simp only [List.flatten_cons, List.length_append, List.length_cons] at hsum hcnt
    refine ⟨?_, by omega, by omega⟩
    simp only
    have e3 : (Crc.fileL n r.flatten = s.data.toList) ↔ fileB n (Crc.mkB r.flatten) = s := by
      unfold fileB
      rw [Crc.mkB_list]
      constructor
      · intro h; rw [h]; exact Crc.mkB_data s
      · intro h; rw [← h]; rfl
    by_cases h : r.flatten.length ≤ 960000 ∧ Crc.fileL n r.flatten = s.data.toList
    · rw [if_pos h, if_pos ⟨h.1, e3.1 h.2⟩]
      rfl
    · rw [if_neg h, if_neg (fun h2 => h ⟨h2.1, e3.2 h2.2⟩)]
      rfl
theorem marked_le {s : ByteArray} {n : Nat} (h : markedB s = some n) : n ≤ 99999999 := by
  unfold markedB Crc.markedL at h
  split at h
  · unfold Crc.markNum at h
    split at h
    · split at h
      · have := Option.some.inj h
        omega
      · cases h
    · cases h
  · cases h
theorem nameS_nat (n : Nat) (h : n ≤ 99999999) : nameS (n : Int) = nameN n := by
  unfold nameS mayS
  rw [if_pos (by simp; omega), Int.toNat_natCast]
theorem read_size {s : DS} (h : Good s) (name : ByteArray) : (readD s name).1.size ≤ 1048576 := by
  unfold readD
  split
  · exact Nat.zero_le _
  · split
    · exact Nat.zero_le _
    · rename_i f hf
      exact (h.each f (getF_some hf).1).2.2.1
theorem str_ne {a b : ByteArray} (h : ¬ a = b) : (a.toList == b.toList) = false := beq_eq_false_iff_ne.2 fun e => h (by
  rw [ByteArray.toList_eq, ByteArray.toList_eq] at e
  exact ByteArray.ext (Array.ext' e))
def LoadPost (s : DS) (w : World) (e : Ending) (w' : World) : Prop := e = .returned (.tuple #[.int .i64 (loadD s).1, .string (loadD s).2.1, .int .i64 (loadD s).2.2]) ∧ Below w.heap.size w w'
set_option maxHeartbeats 4000000 in
set_option maxRecDepth 100000 in
theorem Load_calls {w0 w : World} {g b : Nat} {s : DS} {K : Nat → Prop} (h : RunK w0 w g b s K) (hT : SumW.Tab w) : Calls Tryz.prog 17 #[.pointer (some ⟨g, 0, none⟩)] w (LoadPost s w) := by
  have HTB : Aside0 (∀ w', Below w.heap.size w w' → SumW.Tab w') := ⟨fun w' hb => hT.below hb hT.lt⟩
  have HG := Aside0.mk h.good.1
  have HRD : Aside0 (∀ w', Below w.heap.size w w' → ∀ name : ByteArray, name.size ≤ 9223372036854775807 → Calls Tryz.prog 26 #[.pointer (some ⟨g, 0, none⟩), .string name] w' fun e w2 => e = .returned (.tuple #[.string (readD s name).1, .int .i64 (readD s name).2]) ∧ w' = w2) := ⟨fun w' hb name hn => read_S (h.below hb) name hn⟩
  have HP : Aside0 (∀ e w', e = .returned (.tuple #[.int .i64 (loadD s).1, .string (loadD s).2.1, .int .i64 (loadD s).2.2]) → Below w.heap.size w w' → LoadPost s w e w') := ⟨fun e w' h1 h2 => ⟨h1, h2⟩⟩
  have HL : Aside0 (loadD s = if (readD s sMark).2 = 0 then (match markedB (readD s sMark).1 with | none => (0, sNone, 11) | some n => loadF s n) else (0, sNone, (readD s sMark).2)) := ⟨rfl⟩
  have hms := read_size HG.out sMark
  obtain ⟨m0, e0⟩ : ∃ p, p = readD s sMark := ⟨_, rfl⟩
  have HR0 := HRD.out w (Below.refl _ _) sMark (by decide)
  rw [← e0] at HL hms HR0
  obtain ⟨mt, me⟩ := m0
  dsimp only at HL hms HR0
  replace HR0 := Aside0.mk HR0
  clear h hT e0
  by_cases hme : me = 0
  · subst hme
    have HMC : Aside0 (Calls Tryz.prog 77 #[.string mt] w (MarkPost mt w)) := ⟨marked_calls mt w (HTB.out w (Below.refl _ _)) (by omega)⟩
    cases hmk : markedB mt with
    | none =>
      have HLL : Aside0 (loadD s = (0, sNone, 11)) := ⟨by rw [HL.out, if_pos rfl, hmk]⟩
      have HK := Aside0.mk hmk
      clear HL hmk
      go_enter Tryz.func17, Tryz.ntmps17
      go_wp2_with fail
      refine HR0.out.mono ?_
      rintro e w1 ⟨rfl, rfl⟩
      go_wp2_with fail
      refine HMC.out.mono ?_
      rintro e w2 ⟨v, rfl, _, hb2⟩
      rw [HK.out]
      have HB2 := Aside0.mk hb2
      clear hb2
      go_wp2_with fail
      go_ret3
      exact HP.out _ _ (by rw [HLL.out]; rfl) HB2.out
    | some n =>
      have hn := marked_le hmk
      have HL2 : Aside0 (loadD s = loadF s n) := ⟨by rw [HL.out, if_pos rfl, hmk]⟩
      have HK := Aside0.mk hmk
      have HNM : Aside0 (∀ w1, Calls Tryz.prog 22 #[.int .i64 (n : Int)] w1 fun e w' => e = .returned (.string (nameN n)) ∧ Below w1.heap.size w1 w') := ⟨fun w1 => by rw [← nameS_nat n hn]; exact Name_calls (n : Int) w1⟩
      have HF : Aside0 (loadF s n = if (readD s (nameN n)).2 = 0 then (match dataB n (readD s (nameN n)).1 with | none => (0, sNone, (11 : Int)) | some d => ((n : Int), d, (0 : Int))) else (0, sNone, (11 : Int))) := ⟨rfl⟩
      have hfs := read_size HG.out (nameN n)
      have HR2 : Aside0 (∀ w', Below w.heap.size w w' → Calls Tryz.prog 26 #[.pointer (some ⟨g, 0, none⟩), .string (nameN n)] w' fun e w2 => e = .returned (.tuple #[.string (readD s (nameN n)).1, .int .i64 (readD s (nameN n)).2]) ∧ w' = w2) := ⟨fun w' hb => HRD.out w' hb _ (by rw [nameN_size]; decide)⟩
      clear HL hmk HRD
      generalize readD s (nameN n) = rf at HF hfs HR2
      obtain ⟨ft, fe⟩ := rf
      dsimp only at HF hfs HR2
      have HMN : Aside0 (∀ v : Int, (∀ m, markedB mt = some m → v = (m : Int)) → v = (n : Int)) := ⟨fun v hv => hv n HK.out⟩
      by_cases hfe : fe = 0
      · subst hfe
        have HAC : Aside0 (∀ w1, Below w.heap.size w w1 → Calls Tryz.prog 78 #[.string ft] w1 fun e w' => ∃ v0_ : Value, e = .returned (.tuple #[v0_, .int .i64 (PA.allB ft).2.1, .int .i64 (PA.allB ft).2.2]) ∧ Kd.R Kd.string 9 w' w1.heap.size (fun _ => True) v0_ (PA.allB ft).1 ∧ Below w1.heap.size w1 w') := ⟨fun w1 hb => PA.seal_All.calls (ft.size + 10) ft (PA.allB ft).1 (PA.allB ft).2.1 (PA.allB ft).2.2 w1 (HTB.out w1 hb) (PA.all_at ft (by omega) _ (Nat.le_refl _))⟩
        have HNO := Aside0.mk (dataB_no n ft)
        have HYE := Aside0.mk (dataB_yes n ft)
        generalize PA.allB ft = al at HAC HNO HYE
        obtain ⟨l, at_, y⟩ := al
        dsimp only at HAC HNO HYE
        by_cases hy : y = 0
        · subst hy
          cases l with
          | nil =>
            have HLL : Aside0 (loadD s = (0, sNone, 11)) := ⟨by rw [HL2.out, HF.out, if_pos rfl, HNO.out (.inr rfl)]⟩
            clear HNO HYE HL2 HF
            go_enter Tryz.func17, Tryz.ntmps17
            go_wp2_with fail
            refine HR0.out.mono ?_
            rintro e w1 ⟨rfl, rfl⟩
            go_wp2_with fail
            refine HMC.out.mono ?_
            rintro e w2 ⟨v, rfl, hv2, hb2⟩
            obtain rfl := HMN.out v hv2
            rw [HK.out]
            have HB2 := Aside0.mk hb2
            clear hb2 hv2
            go_wp2_with fail
            refine (HNM.out w2).mono ?_
            rintro e w3 ⟨rfl, hb3⟩
            have HB3 := Aside0.mk (below_step HB2.out hb3)
            clear hb3
            go_wp2_with fail
            refine (HR2.out w3 HB3.out).mono ?_
            rintro e w4 ⟨rfl, rfl⟩
            go_wp2_with fail
            refine (HAC.out w3 HB3.out).mono ?_
            rintro e w5 ⟨v, rfl, hr5, hb5⟩
            obtain ⟨A, c, rfl⟩ := Kd.R_slice hr5
            have HB5 := Aside0.mk (below_step HB3.out hb5)
            clear hr5 hb5
            go_wp2_with fail
            go_ret3
            exact HP.out _ _ (by rw [HLL.out]; rfl) HB5.out
          | cons x r =>
            obtain ⟨hdb, hsum, hlen⟩ := HYE.out x r rfl rfl
            obtain ⟨d, hd⟩ : ∃ d, d = catS r := ⟨_, rfl⟩
            have hds : d.size = sumS r := by rw [hd, catS_size]
            rw [← hd] at hdb
            obtain ⟨m, hm⟩ : ∃ m, m = r.length := ⟨_, rfl⟩
            have HM := Aside0.mk hm
            have HJC : Aside0 (∀ (A : Option Addr) (c : Nat) (w1 : World), Kd.C Kd.string w1 A m r → m ≤ c → Calls Tryz.prog 50 #[.slice A m c, .string ⟨#[]⟩] w1 fun e w' => e = .returned (.string d) ∧ Below w1.heap.size w1 w') := ⟨fun A c w1 hC hc => by
              rw [hm] at hC hc ⊢
              rw [hd]
              exact strings_Join.calls A c r ⟨#[]⟩ (catS r) w1 hC hc (join_cat r (by omega) (by omega))⟩
            have hlm : m ≤ 1048576 := by omega
            have HLX : Aside0 (loadD s = match (if d.size ≤ 960000 ∧ fileB n d = ft then some d else none) with | none => (0, sNone, (11 : Int)) | some d => ((n : Int), d, (0 : Int))) := ⟨by rw [HL2.out, HF.out, if_pos rfl, hdb]⟩
            have hdz : d.size ≤ 1048576 := by omega
            have HFC : Aside0 (d.size ≤ 960000 → ∀ w1, Below w.heap.size w w1 → Calls Tryz.prog 60 #[.int .i64 (n : Int), .string d] w1 fun e w' => e = .returned (.string (fileB n d)) ∧ Below w1.heap.size w1 w') := ⟨fun h w1 hb => file_calls n d w1 (HTB.out w1 hb) hn h⟩
            generalize fileB n d = fb at HFC HLX
            clear HNO HYE HL2 HF hdb hsum hlen hd hds hm hfs
            go_enter Tryz.func17, Tryz.ntmps17
            go_wp2_with fail
            refine HR0.out.mono ?_
            rintro e w1 ⟨rfl, rfl⟩
            go_wp2_with fail
            refine HMC.out.mono ?_
            rintro e w2 ⟨v, rfl, hv2, hb2⟩
            obtain rfl := HMN.out v hv2
            rw [HK.out]
            have HB2 := Aside0.mk hb2
            clear hb2 hv2
            go_wp2_with fail
            refine (HNM.out w2).mono ?_
            rintro e w3 ⟨rfl, hb3⟩
            have HB3 := Aside0.mk (below_step HB2.out hb3)
            clear hb3
            go_wp2_with fail
            refine (HR2.out w3 HB3.out).mono ?_
            rintro e w4 ⟨rfl, rfl⟩
            go_wp2_with fail
            refine (HAC.out w3 HB3.out).mono ?_
            rintro e w5 ⟨v, rfl, hr5, hb5⟩
            obtain ⟨gb, c, hv5, _⟩ := Kd.R_form hr5 (by simp)
            subst hv5
            have hRR := Kd.R_reads' hr5
            have hcl := hRR.2.1
            have hDR := Kd.C_drop (m := 1) (c := c) hRR.2.2 (by simp) hcl
            simp only [List.drop_succ_cons, List.drop_zero] at hDR
            rw [List.length_cons, ← HM.out] at hcl
            rw [← HM.out] at hDR
            rw [List.length_cons, ← HM.out]
            have HDR := Aside0.mk hDR
            have HB5 := Aside0.mk (below_step HB3.out hb5)
            clear hr5 hb5 hRR hDR
            by_cases hc1 : c = 1
            · have h9 := HDR.out
              rw [if_pos hc1] at h9
              have HC6' := Aside0.mk h9
              clear h9 HDR
              subst hc1
              obtain rfl : m = 0 := by omega
              go_wp2_with fail
              refine (HJC.out _ _ w5 HC6'.out (by omega)).mono ?_
              rintro e w6 ⟨rfl, hb6⟩
              have HB6 := Aside0.mk (below_step HB5.out hb6)
              clear hb6
              by_cases hbig : d.size ≤ 960000
              · have hng : ¬ ((d.size : Int) > 960000) := by omega
                have HBG := Aside0.mk hbig
                clear hbig
                go_wp2_with fail
                refine (HFC.out HBG.out w6 HB6.out).mono ?_
                rintro e w7 ⟨rfl, hb7⟩
                have HB7 := Aside0.mk (below_step HB6.out hb7)
                clear hb7
                by_cases heq : fb = ft
                · subst heq
                  go_wp2_with fail
                  go_ret3
                  exact HP.out _ _ (by rw [HLX.out, if_pos ⟨HBG.out, trivial⟩]; rfl) HB7.out
                · have HNE := Aside0.mk heq
                  have hq := str_ne heq
                  clear heq
                  go_wp2_with fail
                  go_ret3
                  exact HP.out _ _ (by rw [HLX.out, if_neg (fun h => HNE.out h.2)]; rfl) HB7.out
              · have hg : (d.size : Int) > 960000 := by omega
                have HBG := Aside0.mk hbig
                clear hbig
                go_wp2_with fail
                go_ret3
                exact HP.out _ _ (by rw [HLX.out, if_neg (fun h => HBG.out h.1)]; rfl) HB6.out
            · have h9 := HDR.out
              rw [if_neg hc1] at h9
              have HC6' : Aside0 (Kd.C Kd.string w5 (some ⟨gb, 1, none⟩) m r) := ⟨h9⟩
              clear h9 HDR
              go_wp2_with fail
              refine (HJC.out _ _ w5 HC6'.out (by omega)).mono ?_
              rintro e w6 ⟨rfl, hb6⟩
              have HB6 := Aside0.mk (below_step HB5.out hb6)
              clear hb6
              by_cases hbig : d.size ≤ 960000
              · have hng : ¬ ((d.size : Int) > 960000) := by omega
                have HBG := Aside0.mk hbig
                clear hbig
                go_wp2_with fail
                refine (HFC.out HBG.out w6 HB6.out).mono ?_
                rintro e w7 ⟨rfl, hb7⟩
                have HB7 := Aside0.mk (below_step HB6.out hb7)
                clear hb7
                by_cases heq : fb = ft
                · subst heq
                  go_wp2_with fail
                  go_ret3
                  exact HP.out _ _ (by rw [HLX.out, if_pos ⟨HBG.out, trivial⟩]; rfl) HB7.out
                · have HNE := Aside0.mk heq
                  have hq := str_ne heq
                  clear heq
                  go_wp2_with fail
                  go_ret3
                  exact HP.out _ _ (by rw [HLX.out, if_neg (fun h => HNE.out h.2)]; rfl) HB7.out
              · have hg : (d.size : Int) > 960000 := by omega
                have HBG := Aside0.mk hbig
                clear hbig
                go_wp2_with fail
                go_ret3
                exact HP.out _ _ (by rw [HLX.out, if_neg (fun h => HBG.out h.1)]; rfl) HB6.out
        · have HLL : Aside0 (loadD s = (0, sNone, 11)) := ⟨by rw [HL2.out, HF.out, if_pos rfl, HNO.out (.inl hy)]⟩
          clear HNO HYE HL2 HF
          go_enter Tryz.func17, Tryz.ntmps17
          go_wp2_with fail
          refine HR0.out.mono ?_
          rintro e w1 ⟨rfl, rfl⟩
          go_wp2_with fail
          refine HMC.out.mono ?_
          rintro e w2 ⟨v, rfl, hv2, hb2⟩
          obtain rfl := HMN.out v hv2
          rw [HK.out]
          have HB2 := Aside0.mk hb2
          clear hb2 hv2
          go_wp2_with fail
          refine (HNM.out w2).mono ?_
          rintro e w3 ⟨rfl, hb3⟩
          have HB3 := Aside0.mk (below_step HB2.out hb3)
          clear hb3
          go_wp2_with fail
          refine (HR2.out w3 HB3.out).mono ?_
          rintro e w4 ⟨rfl, rfl⟩
          go_wp2_with fail
          refine (HAC.out w3 HB3.out).mono ?_
          rintro e w5 ⟨v, rfl, hr5, hb5⟩
          obtain ⟨A, c, rfl⟩ := Kd.R_slice hr5
          have HB5 := Aside0.mk (below_step HB3.out hb5)
          clear hr5 hb5
          go_wp2_with fail
          go_ret3
          exact HP.out _ _ (by rw [HLL.out]; rfl) HB5.out
      · have HLL : Aside0 (loadD s = (0, sNone, 11)) := ⟨by rw [HL2.out, HF.out, if_neg hfe]⟩
        clear HL2 HF
        go_enter Tryz.func17, Tryz.ntmps17
        go_wp2_with fail
        refine HR0.out.mono ?_
        rintro e w1 ⟨rfl, rfl⟩
        go_wp2_with fail
        refine HMC.out.mono ?_
        rintro e w2 ⟨v, rfl, hv2, hb2⟩
        obtain rfl := HMN.out v hv2
        rw [HK.out]
        have HB2 := Aside0.mk hb2
        clear hb2 hv2
        go_wp2_with fail
        refine (HNM.out w2).mono ?_
        rintro e w3 ⟨rfl, hb3⟩
        have HB3 := Aside0.mk (below_step HB2.out hb3)
        clear hb3
        go_wp2_with fail
        refine (HR2.out w3 HB3.out).mono ?_
        rintro e w4 ⟨rfl, rfl⟩
        go_wp2_with fail
        go_ret3
        exact HP.out _ _ (by rw [HLL.out]; rfl) HB3.out
  · have HLL : Aside0 (loadD s = (0, sNone, me)) := ⟨by rw [HL.out, if_neg hme]⟩
    clear HL
    go_enter Tryz.func17, Tryz.ntmps17
    go_wp2_with fail
    refine HR0.out.mono ?_
    rintro e w1 ⟨rfl, rfl⟩
    go_wp2_with fail
    go_ret3
    exact HP.out _ _ (by rw [HLL.out]; rfl) (Below.refl _ _)
end Go.Proofs.YtcbbdkennmopdaaGreatDoor.PK
/- snap: counts, drop, others. -/
namespace Go.Proofs.YtcbbdkennmopdaaGreatDoor.PK
open Go.RowKit Go.Proofs.YtcbbdkennmopdaaGreatDoorW.PrintWords Go.Proofs.YtcbbdkennmopdaaGreatDoorW.PrintLast Go.Proofs.YtcbbdkennmopdaaGreatDoorW.PrintMore
open Go.Maps
set_option maxRecDepth 100000 in
theorem counts_calls {w0 w : World} {g b : Nat} {s : DS} {K : Nat → Prop} (h : RunK w0 w g b s K) (hT : SumW.Tab w) (n : Int) : Calls Tryz.prog 52 #[.pointer (some ⟨g, 0, none⟩), .int .i64 n] w fun e w' => e = .returned (.bool (decide ((loadD s).2.2 = 0 ∧ (loadD s).1 = n))) ∧ Below w.heap.size w w' := by
  have HL := Aside0.mk (Load_calls h hT)
  unfold LoadPost at HL
  clear h hT
  generalize loadD s = q at HL ⊢
  obtain ⟨m, t, c⟩ := q
  dsimp only at HL ⊢
  by_cases hc : c = 0
  · subst hc
    have HE : Aside0 (decide ((0 : Int) = 0 ∧ m = n) = (m == n)) := ⟨by by_cases h : m = n <;> simp [h]⟩
    rw [HE.out]
    go_enter Tryz.func52, Tryz.ntmps52
    go_wp2_with fail
    refine HL.out.mono ?_
    rintro e w1 ⟨rfl, hb⟩
    have HB := Aside0.mk hb
    clear hb
    go_wp2_with fail
    go_ret
    exact ⟨rfl, HB.out⟩
  · have HE : Aside0 (decide (c = 0 ∧ m = n) = false) := ⟨by simp [hc]⟩
    rw [HE.out]
    go_enter Tryz.func52, Tryz.ntmps52
    go_wp2_with fail
    refine HL.out.mono ?_
    rintro e w1 ⟨rfl, hb⟩
    have HB := Aside0.mk hb
    clear hb
    go_wp2_with fail
    go_ret
    exact ⟨rfl, HB.out⟩
/-- What stands behind a step that ends in a state and an error. -/
def StepPost (w0 w : World) (g b : Nat) (K : Nat → Prop) (r : DS × Int) (e : Ending) (w' : World) : Prop := e = .returned (.int .i64 r.2) ∧ RunK w0 w' g b r.1 K ∧ Held K w w'
set_option maxRecDepth 100000 in
theorem drop_calls {w0 w : World} {g b : Nat} {s : DS} {K : Nat → Prop} (h : RunK w0 w g b s K) (hu : s.uses < 1000000) (name : ByteArray) : Calls Tryz.prog 56 #[.pointer (some ⟨g, 0, none⟩), .string name] w (StepPost w0 w g b K (dropD s name)) := by
  have HD := Aside0.mk (delete_S h hu name)
  have HR : Aside0 (dropD s name = ((deleteD s name).1, if (deleteD s name).2 = 8 then 0 else (deleteD s name).2)) := ⟨rfl⟩
  have HP : Aside0 (∀ e w', e = .returned (.int .i64 (dropD s name).2) → RunK w0 w' g b (dropD s name).1 K → Held K w w' → StepPost w0 w g b K (dropD s name) e w') := ⟨fun e w' h1 h2 h3 => ⟨h1, h2, h3⟩⟩
  clear h
  generalize dropD s name = dr at HR HP ⊢
  generalize deleteD s name = q at HD HR
  obtain ⟨t, c⟩ := q
  dsimp only at HD HR
  by_cases hc : c = 8
  · subst hc
    obtain rfl : dr = (t, 0) := by rw [HR.out, if_pos rfl]
    clear HR
    go_enter Tryz.func56, Tryz.ntmps56
    go_wp2_with fail
    refine HD.out.mono ?_
    rintro e w1 ⟨rfl, hr, hk⟩
    have H1 := Aside0.mk hr
    have H2 := Aside0.mk hk
    clear hr hk
    go_wp2_with fail
    go_ret
    exact HP.out _ _ rfl H1.out H2.out
  · obtain rfl : dr = (t, c) := by rw [HR.out, if_neg hc]
    clear HR
    go_enter Tryz.func56, Tryz.ntmps56
    go_wp2_with fail
    refine HD.out.mono ?_
    rintro e w1 ⟨rfl, hr, hk⟩
    have H1 := Aside0.mk hr
    have H2 := Aside0.mk hk
    clear hr hk
    go_wp2_with fail
    go_ret
    exact HP.out _ _ rfl H1.out H2.out
theorem str_eq (a : ByteArray) : (a.toList == a.toList) = true := by simp
theorem deleteD_uses (s : DS) (x : ByteArray) : (deleteD s x).1.uses ≤ s.uses + 1 := by
  have := useD_uses s
  unfold deleteD
  split
  · exact this
  · exact this
def OthPost (w0 w : World) (g b : Nat) (K : Nat → Prop) (r : DS × Int × Int) (e : Ending) (w' : World) : Prop := e = .returned (.tuple #[.int .i64 r.2.1, .int .i64 r.2.2]) ∧ RunK w0 w' g b r.1 K ∧ Held K w w'
set_option maxHeartbeats 4000000 in
set_option maxRecDepth 100000 in
theorem others_calls {w0 w : World} {g b : Nat} {s : DS} {K : Nat → Prop} (h : RunK w0 w g b s K) (hu : s.uses < 900000) (but : ByteArray) : Calls Tryz.prog 69 #[.pointer (some ⟨g, 0, none⟩), .string but] w (OthPost w0 w g b K (othersD s but)) := by
  have HP : Aside0 (∀ e w', e = .returned (.tuple #[.int .i64 (othersD s but).2.1, .int .i64 (othersD s but).2.2]) → RunK w0 w' g b (othersD s but).1 K → Held K w w' → OthPost w0 w g b K (othersD s but) e w') := ⟨fun e w' h1 h2 h3 => ⟨h1, h2, h3⟩⟩
  have HO : Aside0 (othersD s but = othersL but (namesD s [sFront]) s 0) := ⟨rfl⟩
  have HL : Aside0 ((namesD s [sFront]).length ≤ 100) := ⟨by
    unfold namesD
    refine Nat.le_trans (List.length_filter_le _ _) ?_
    unfold namesF
    rw [List.length_map]
    exact h.good.1.count⟩
  have HN := Aside0.mk (names_S (h.below (below_alloc (Below.refl _ _) (.cells #[.string sFront] 9))) (some ⟨w.heap.size, 0, none⟩) 1 [sFront] (strC_blk (blk_new w _) (by simp)))
  have H0 := Aside0.mk h
  clear h
  generalize othersD s but = od at HP HO ⊢
  generalize namesD s [sFront] = l at HO HL HN
  go_enter Tryz.func69, Tryz.ntmps69
  go_wp2_with fail
  refine HN.out.mono ?_
  rintro e w1 ⟨v, rfl, hr1, hb1⟩
  obtain ⟨A, c, rfl⟩ := Kd.R_slice hr1
  have hb1' : Below w.heap.size w w1 := below_step (below_alloc (Below.refl _ _) _) hb1
  obtain ⟨K2, hK2⟩ : ∃ K2 : Nat → Prop, K2 = fun k => K k ∨ (w.heap.size ≤ k ∧ k < w1.heap.size) := ⟨_, rfl⟩
  have HR1 : Aside0 (RunK w0 w1 g b s K2) := ⟨by rw [hK2]; exact H0.out.more hb1'⟩
  have HK2 : Aside0 (∀ k, K k → K2 k) := ⟨fun k hk => by rw [hK2]; exact .inl hk⟩
  have HH1 := Aside0.mk (Held.below hb1' H0.out.lt)
  have HC1 := Aside0.mk (Kd.R_reads' hr1).2.2
  have HAK : Aside0 (∀ ad, A = some ad → 0 < l.length → K2 ad.block) := ⟨fun ad e hl => by
    obtain ⟨gb, cap, hv, hg1, hg2, _⟩ := Kd.R_form hr1 hl
    injection hv with hv _ _
    rw [e] at hv
    injection hv with hv
    subst hv
    rw [hK2]
    refine .inr ⟨?_, hg2⟩
    rw [alloc_size] at hg1
    show w.heap.size ≤ gb
    omega⟩
  have HHD := Aside0.mk (Held.refl K2 w1)
  obtain ⟨n, hn⟩ : ∃ n, n = l.length := ⟨_, rfl⟩
  have HNL := Aside0.mk hn
  rw [← hn] at HL HAK ⊢
  have hn100 := HL.out
  clear hr1 hb1 hb1' hK2 H0 HN hn
  go_wp2_with fail
  go_loopg [6, 14] (n + 1) (fun kq v6 v14 w' => ∃ (i cnt : Nat) (t : DS), v6 = .int .i64 (cnt : Int) ∧ v14 = .int .i64 (i : Int) ∧ Aside0 (i + kq = n + 1) ∧ i ≤ n ∧ cnt ≤ i ∧ Aside0 (othersL but (l.drop i) t cnt = od) ∧ Aside0 (t.uses ≤ s.uses + (i : Int)) ∧ Aside0 (RunK w0 w' g b t K2) ∧ Aside0 (Held K2 w1 w'))
  case atStart => exact ⟨0, 0, s, rfl, rfl, ⟨by omega⟩, Nat.zero_le _, Nat.le_refl _, ⟨by rw [List.drop_zero]; exact HO.out.symm⟩, ⟨by omega⟩, HR1, HHD⟩
  case round =>
    clear HR1 HHD HO
    obtain ⟨i, cnt, t, rfl, rfl, HK, hi, hcnt, HOT, HU, HR, HH⟩ := hrel
    by_cases hin : i < n
    · have hlt : i < l.length := by have := HNL.out; omega
      obtain ⟨ad, e1, hx⟩ := Kd.at_string HC1.out (i : Int) (by omega) (by have := HNL.out; omega)
      subst e1
      rw [rdS_at l i hlt] at hx
      simp only [Int.toNat_natCast] at hx
      have hx2 : wr.cell? (ad.add i) = some (.string l[i]) := by
        rw [← hx]
        exact cell_held HH.out _ (by rw [add_block]; exact HAK.out ad rfl (by omega))
      have HDC : Aside0 (l.drop i = l[i] :: l.drop (i + 1)) := ⟨List.drop_eq_getElem_cons hlt⟩
      generalize l[i] = x at hx2 HDC
      have HO2 := HOT.out
      rw [HDC.out] at HO2
      unfold othersL at HO2
      have hu2 := HU.out
      clear hx
      cases gk with
      | zero => exact absurd HK.out (by omega)
      | succ k1 =>
        by_cases hxb : x = but
        · subst hxb
          rw [if_pos rfl] at HO2
          have HO3 := Aside0.mk HO2
          have hq := str_eq x
          clear HO2 hu2
          go_wp2_with fail
          go_roundg k1
          case measure => have := HK.out; omega
          case rel => exact ⟨i + 1, cnt, t, rfl, by go_num, ⟨by have := HK.out; omega⟩, by omega, by omega, HO3, ⟨by have := HU.out; omega⟩, HR, HH⟩
        · rw [if_neg hxb] at HO2
          have HO3 := Aside0.mk HO2
          have hq := str_ne hxb
          have HDL := Aside0.mk (delete_S HR.out (by omega) x)
          have HDU := Aside0.mk (deleteD_uses t x)
          clear HO2 hu2 hxb
          generalize deleteD t x = q at HO3 HDL HDU
          obtain ⟨t2, c2⟩ := q
          dsimp only at HO3 HDL HDU
          by_cases hc2 : c2 = 0
          · subst hc2
            have HO4 : Aside0 (othersL but (l.drop (i + 1)) t2 (cnt + 1) = od) := ⟨by have := HO3.out; rw [if_pos rfl] at this; exact this⟩
            have hwc : IntKind.i64.wrap ((cnt : Int) + 1) = (cnt : Int) + 1 := by rw [IntKind.wrap_i64]; omega
            clear HO3
            go_wp2_with fail
            refine HDL.out.mono ?_
            rintro e w5 ⟨rfl, hr5, hh5⟩
            have HR5 := Aside0.mk hr5
            have HH5 := Aside0.mk (HH.out.trans hh5)
            clear hr5 hh5
            go_wp2_with fail
            go_roundg k1
            case measure => have := HK.out; omega
            case rel => exact ⟨i + 1, cnt + 1, t2, by go_num, by go_num, ⟨by have := HK.out; omega⟩, by omega, by omega, HO4, ⟨by have h1 := HU.out; have h2 := HDU.out; omega⟩, HR5, HH5⟩
          · have HO4 : Aside0 (od = (t2, 0, c2)) := ⟨by have := HO3.out; rw [if_neg hc2] at this; exact this.symm⟩
            clear HO3
            go_wp2_with fail
            refine HDL.out.mono ?_
            rintro e w5 ⟨rfl, hr5, hh5⟩
            have HR5 := Aside0.mk hr5
            have HH5 := Aside0.mk (HH.out.trans hh5)
            clear hr5 hh5
            go_wp2_with fail
            go_ret2
            exact HP.out _ _ (by rw [HO4.out]; rfl) (by rw [HO4.out]; exact HR5.out.mono HK2.out) (HH1.out.trans (HH5.out.mono HK2.out))
    · obtain rfl : i = n := by omega
      have HO4 : Aside0 (od = (t, (cnt : Int), 0)) := ⟨by have h9 := HOT.out; rw [List.drop_of_length_le (by have := HNL.out; omega)] at h9; exact h9.symm⟩
      clear HOT
      go_wp2_with fail
      go_ret2
      exact HP.out _ _ (by rw [HO4.out]; rfl) (by rw [HO4.out]; exact HR.out.mono HK2.out) (HH1.out.trans (HH.out.mono HK2.out))
end Go.Proofs.YtcbbdkennmopdaaGreatDoor.PK
/- snap: the steps of a Save. -/
namespace Go.Proofs.YtcbbdkennmopdaaGreatDoor.PK
open Go.RowKit Go.Proofs.YtcbbdkennmopdaaGreatDoorW.PrintWords Go.Proofs.YtcbbdkennmopdaaGreatDoorW.PrintLast Go.Proofs.YtcbbdkennmopdaaGreatDoorW.PrintMore
open Go.Maps
/-- The variables that the steps hold: the disk, the number, the text, the name. -/
structure Cap (w : World) (K : Nat → Prop) (cd ci ct cn g n : Nat) (d : ByteArray) : Prop where
  kd : K cd
  ki : K ci
  kt : K ct
  kn : K cn
  hd : w.cell? ⟨cd, 0, none⟩ = some (.pointer (some ⟨g, 0, none⟩))
  hi : w.cell? ⟨ci, 0, none⟩ = some (.int .i64 (n : Int))
  ht : w.cell? ⟨ct, 0, none⟩ = some (.string d)
  hn : w.cell? ⟨cn, 0, none⟩ = some (.string (nameN n))
theorem Cap.held {w w' : World} {K : Nat → Prop} {cd ci ct cn g n : Nat} {d : ByteArray} (h : Cap w K cd ci ct cn g n d) (hh : Held K w w') : Cap w' K cd ci ct cn g n d :=
  ⟨h.kd, h.ki, h.kt, h.kn, (cell_held hh ⟨cd, 0, none⟩ h.kd).trans h.hd, (cell_held hh ⟨ci, 0, none⟩ h.ki).trans h.hi, (cell_held hh ⟨ct, 0, none⟩ h.kt).trans h.ht, (cell_held hh ⟨cn, 0, none⟩ h.kn).trans h.hn⟩
section
variable {w0 w : World} {g b : Nat} {s : DS} {K : Nat → Prop} {cd ci ct cn n : Nat} {d : ByteArray}
theorem StepPost.mk' {r : DS × Int} {e : Ending} {w' : World} (h1 : e = .returned (.int .i64 r.2)) (h2 : RunK w0 w' g b r.1 K) (h3 : Held K w w') : StepPost w0 w g b K r e w' := ⟨h1, h2, h3⟩
set_option maxRecDepth 100000 in
theorem save1_calls (h : RunK w0 w g b s K) (hu : s.uses < 1000000) (hc : Cap w K cd ci ct cn g n d) : Calls Tryz.prog 55 #[.pointer (some ⟨cd, 0, none⟩), .pointer (some ⟨cn, 0, none⟩)] w (StepPost w0 w g b K (st1 n s)) := by
  have H1 : Aside0 (Calls Tryz.prog 56 #[.pointer (some ⟨g, 0, none⟩), .string (nameN n)] w (StepPost w0 w g b K (st1 n s))) := ⟨drop_calls h hu (nameN n)⟩
  have h1 := hc.hd
  have h2 := hc.hn
  clear h hc
  generalize st1 n s = r at H1 ⊢
  go_enter Tryz.func55, Tryz.ntmps55
  go_wp2_with fail
  refine H1.out.mono ?_
  rintro e w1 ⟨rfl, hr, hk⟩
  have HR := Aside0.mk hr
  have HK := Aside0.mk hk
  clear hr hk
  go_wp2_with fail
  go_ret
  exact StepPost.mk' rfl HR.out HK.out
set_option maxRecDepth 100000 in
theorem save2_calls (h : RunK w0 w g b s K) (hu : s.uses < 1000000) (hc : Cap w K cd ci ct cn g n d) : Calls Tryz.prog 57 #[.pointer (some ⟨cd, 0, none⟩)] w (StepPost w0 w g b K (st2 s)) := by
  have H1 : Aside0 (Calls Tryz.prog 56 #[.pointer (some ⟨g, 0, none⟩), .string ⟨#[109, 97, 114, 107, 46, 110, 101, 119]⟩] w (StepPost w0 w g b K (st2 s))) := ⟨drop_calls h hu sFresh⟩
  have h1 := hc.hd
  clear h hc
  generalize st2 s = r at H1 ⊢
  go_enter Tryz.func57, Tryz.ntmps57
  go_wp2_with fail
  refine H1.out.mono ?_
  rintro e w1 ⟨rfl, hr, hk⟩
  have HR := Aside0.mk hr
  have HK := Aside0.mk hk
  clear hr hk
  go_wp2_with fail
  go_ret
  exact StepPost.mk' rfl HR.out HK.out
set_option maxRecDepth 100000 in
theorem save4_calls (h : RunK w0 w g b s K) (hu : s.uses < 1000000) (hc : Cap w K cd ci ct cn g n d) : Calls Tryz.prog 61 #[.pointer (some ⟨cd, 0, none⟩), .pointer (some ⟨cn, 0, none⟩)] w (StepPost w0 w g b K (st4 n s)) := by
  have H1 := Aside0.mk (sync_S h hu (nameN n))
  have h1 := hc.hd
  have h2 := hc.hn
  have HS : Aside0 (st4 n s = syncD s [nameN n]) := ⟨rfl⟩
  rw [HS.out]
  clear h hc HS
  generalize syncD s [nameN n] = r at H1 ⊢
  go_enter Tryz.func61, Tryz.ntmps61
  go_wp2_with fail
  refine H1.out.mono ?_
  rintro e w1 ⟨rfl, hr, hk⟩
  have HR := Aside0.mk hr
  have HK := Aside0.mk hk
  clear hr hk
  go_wp2_with fail
  go_ret
  exact StepPost.mk' rfl HR.out HK.out
set_option maxRecDepth 100000 in
theorem save6_calls (h : RunK w0 w g b s K) (hu : s.uses < 1000000) (hc : Cap w K cd ci ct cn g n d) : Calls Tryz.prog 65 #[.pointer (some ⟨cd, 0, none⟩)] w (StepPost w0 w g b K (st6 s)) := by
  have H1 : Aside0 (Calls Tryz.prog 20 #[.pointer (some ⟨g, 0, none⟩), .slice (some ⟨w.heap.size, 0, none⟩) 1 1] (w.alloc (.cells #[.string ⟨#[109, 97, 114, 107, 46, 110, 101, 119]⟩] 9)) (StepPost w0 w g b K (st6 s))) := ⟨sync_S h hu sFresh⟩
  have h1 := hc.hd
  clear h hc
  generalize st6 s = r at H1 ⊢
  go_enter Tryz.func65, Tryz.ntmps65
  go_wp2_with fail
  refine H1.out.mono ?_
  rintro e w1 ⟨rfl, hr, hk⟩
  have HR := Aside0.mk hr
  have HK := Aside0.mk hk
  clear hr hk
  go_wp2_with fail
  go_ret
  exact StepPost.mk' rfl HR.out HK.out
set_option maxRecDepth 100000 in
theorem save7_calls (h : RunK w0 w g b s K) (hu : s.uses < 1000000) (hc : Cap w K cd ci ct cn g n d) : Calls Tryz.prog 66 #[.pointer (some ⟨cd, 0, none⟩)] w (StepPost w0 w g b K (st7 s)) := by
  have H1 : Aside0 (Calls Tryz.prog 67 #[.pointer (some ⟨g, 0, none⟩), .string ⟨#[109, 97, 114, 107, 46, 110, 101, 119]⟩, .string ⟨#[109, 97, 114, 107]⟩] w (StepPost w0 w g b K (st7 s))) := ⟨rename_S h hu sFresh sMark⟩
  have h1 := hc.hd
  clear h hc
  generalize st7 s = r at H1 ⊢
  go_enter Tryz.func66, Tryz.ntmps66
  go_wp2_with fail
  refine H1.out.mono ?_
  rintro e w1 ⟨rfl, hr, hk⟩
  have HR := Aside0.mk hr
  have HK := Aside0.mk hk
  clear hr hk
  go_wp2_with fail
  go_ret
  exact StepPost.mk' rfl HR.out HK.out
set_option maxRecDepth 100000 in
theorem save8_calls (h : RunK w0 w g b s K) (hu : s.uses < 900000) (hc : Cap w K cd ci ct cn g n d) : Calls Tryz.prog 68 #[.pointer (some ⟨cd, 0, none⟩), .pointer (some ⟨cn, 0, none⟩)] w (StepPost w0 w g b K (st8 n s)) := by
  have H1 := Aside0.mk (others_calls h hu (nameN n))
  unfold OthPost at H1
  have h1 := hc.hd
  have h2 := hc.hn
  have HS : Aside0 (st8 n s = ((othersD s (nameN n)).1, (othersD s (nameN n)).2.2)) := ⟨rfl⟩
  rw [HS.out]
  clear h hc HS
  generalize othersD s (nameN n) = r at H1 ⊢
  go_enter Tryz.func68, Tryz.ntmps68
  go_wp2_with fail
  refine H1.out.mono ?_
  rintro e w1 ⟨rfl, hr, hk⟩
  have HR := Aside0.mk hr
  have HK := Aside0.mk hk
  clear hr hk
  go_wp2_with fail
  go_ret
  exact StepPost.mk' rfl HR.out HK.out
end
end Go.Proofs.YtcbbdkennmopdaaGreatDoor.PK
/- snap: the steps of a Save that append. -/
namespace Go.Proofs.YtcbbdkennmopdaaGreatDoor.PK
open Go.RowKit Go.Proofs.YtcbbdkennmopdaaGreatDoorW.PrintWords Go.Proofs.YtcbbdkennmopdaaGreatDoorW.PrintLast Go.Proofs.YtcbbdkennmopdaaGreatDoorW.PrintMore
open Go.Maps
section
variable {w0 w : World} {g b : Nat} {s : DS} {K : Nat → Prop} {cd ci ct cn n : Nat} {d : ByteArray}
set_option maxHeartbeats 2000000 in
set_option maxRecDepth 100000 in
theorem save3_calls (h : RunK w0 w g b s K) (hu : s.uses < 1000000) (hc : Cap w K cd ci ct cn g n d) (hT : SumW.Tab w) (hn : n ≤ 99999999) (hd : d.size ≤ 960000) : Calls Tryz.prog 58 #[.pointer (some ⟨cd, 0, none⟩), .pointer (some ⟨cn, 0, none⟩), .pointer (some ⟨ci, 0, none⟩), .pointer (some ⟨ct, 0, none⟩)] w (StepPost w0 w g b K (st3 n d s)) := by
  have HF : Aside0 (∀ w1, Below w.heap.size w w1 → Calls Tryz.prog 60 #[.int .i64 (n : Int), .string d] w1 fun e w' => e = .returned (.string (fileB n d)) ∧ Below w1.heap.size w1 w') := ⟨fun w1 hb => file_calls n d w1 (hT.below hb hT.lt) hn hd⟩
  have HA : Aside0 (∀ w1, Below w.heap.size w w1 → Calls Tryz.prog 59 #[.pointer (some ⟨g, 0, none⟩), .string (nameN n), .slice (some ⟨w1.heap.size, 0, none⟩) 1 1] (w1.alloc (.cells #[.string (fileB n d)] 9)) fun e w' => e = .returned (.int .i64 (st3 n d s).2) ∧ RunK w0 w' g b (st3 n d s).1 K ∧ Held K w1 w') := ⟨fun w1 hb => app_S (h.below hb) hu (nameN n) (fileB n d) (by have := fileB_size n d hd; omega)⟩
  have HC : Aside0 (∀ w1, Below w.heap.size w w1 → Cap w1 K cd ci ct cn g n d) := ⟨fun w1 hb => hc.held (Held.below hb h.lt)⟩
  have HL := Aside0.mk h.lt
  have HP : Aside0 (∀ e w', e = .returned (.int .i64 (st3 n d s).2) → RunK w0 w' g b (st3 n d s).1 K → Held K w w' → StepPost w0 w g b K (st3 n d s) e w') := ⟨fun e w' h1 h2 h3 => ⟨h1, h2, h3⟩⟩
  clear h hc hT
  generalize st3 n d s = r at HA HP ⊢
  generalize fileB n d = f at HA HF
  obtain ⟨S, hS⟩ : ∃ S : World → Prop, S = fun w' => w'.cell? ⟨cd, 0, none⟩ = some (.pointer (some ⟨g, 0, none⟩)) ∧ w'.cell? ⟨cn, 0, none⟩ = some (.string (nameN n)) ∧ w'.cell? ⟨ci, 0, none⟩ = some (.int .i64 (n : Int)) ∧ w'.cell? ⟨ct, 0, none⟩ = some (.string d) := ⟨_, rfl⟩
  have HSC : Aside0 (∀ w1, Cap w1 K cd ci ct cn g n d → w1.cell? ⟨cd, 0, none⟩ = some (.pointer (some ⟨g, 0, none⟩)) ∧ w1.cell? ⟨cn, 0, none⟩ = some (.string (nameN n)) ∧ w1.cell? ⟨ci, 0, none⟩ = some (.int .i64 (n : Int)) ∧ w1.cell? ⟨ct, 0, none⟩ = some (.string d)) := ⟨fun w1 q => ⟨q.hd, q.hn, q.hi, q.ht⟩⟩
  clear hS S
  generalize nameN n = nm at *
  have HB0 := Aside0.mk (below_drew (Below.refl w.heap.size w))
  go_enter Tryz.func58, Tryz.ntmps58
  go_wp2_with fail
  refine start_ (n := 8) (S := fun w' => w'.cell? ⟨cd, 0, none⟩ = some (.pointer (some ⟨g, 0, none⟩)) ∧ w'.cell? ⟨cn, 0, none⟩ = some (.string nm) ∧ w'.cell? ⟨ci, 0, none⟩ = some (.int .i64 (n : Int)) ∧ w'.cell? ⟨ct, 0, none⟩ = some (.string d)) (ds := []) #[false, false, false, false, false, false, false, false] (by kernel_rfl) rfl rfl (HSC.out _ (HC.out _ HB0.out)) (fun hHeld => ?_)
  generalize w.drew = w7 at HB0 hHeld ⊢
  refine take_ (i := 0) (N := some 5) (v := ?_) (a' := ?_) #[true, false, false, false, false, false, false, false] rfl rfl (by kernel_rfl) (fun _ _ _ h => h) (Or.inl ⟨by rfl, ?_⟩) hHeld ?_ ?_
  rotate_left
  · rintro w' ⟨q1, q2, q3, q4⟩
    go_simp
    with_reducible rfl
  rotate_left
  · simp only [Act.put, List.setIfInBounds_toArray, List.set_cons_zero, List.set_cons_succ, i64_w, i32_w]
    rfl
  refine take_ (i := 1) (N := some 6) (v := ?_) (a' := ?_) #[true, true, false, false, false, false, false, false] rfl rfl (by kernel_rfl) (fun _ _ _ h => h) (Or.inl ⟨by rfl, ?_⟩) hHeld ?_ ?_
  rotate_left
  · rintro w' ⟨q1, q2, q3, q4⟩
    go_simp
    with_reducible rfl
  rotate_left
  · simp only [Act.put, List.setIfInBounds_toArray, List.set_cons_zero, List.set_cons_succ, i64_w, i32_w]
    rfl
  refine take_ (i := 2) (N := some 7) (v := ?_) (a' := ?_) #[true, true, true, false, false, false, false, false] rfl rfl (by kernel_rfl) (fun _ _ _ h => h) (Or.inl ⟨by rfl, ?_⟩) hHeld ?_ ?_
  rotate_left
  · rintro w' ⟨q1, q2, q3, q4⟩
    go_simp
    with_reducible rfl
  rotate_left
  · simp only [Act.put, List.setIfInBounds_toArray, List.set_cons_zero, List.set_cons_succ, i64_w, i32_w]
    rfl
  refine take_ (i := 3) (N := some 8) (v := ?_) (a' := ?_) #[true, true, true, true, false, false, false, false] rfl rfl (by kernel_rfl) (fun _ _ _ h => h) (Or.inl ⟨by rfl, ?_⟩) hHeld ?_ ?_
  rotate_left
  · rintro w' ⟨q1, q2, q3, q4⟩
    go_simp
    with_reducible rfl
  rotate_left
  · simp only [Act.put, List.setIfInBounds_toArray, List.set_cons_zero, List.set_cons_succ, i64_w, i32_w]
    rfl
  refine one_ (i := 4) (N := some 9) #[true, true, true, true, true, false, false, false] rfl rfl (by kernel_rfl) (by decide) (fun K hK => ?_)
  refine goes_ Tryz.func60 (by kernel_rfl) rfl #[.int .i64 (n : Int), .string d] (by rfl) rfl rfl (by (try simp only [List.map_toArray, List.map_cons, List.map_nil]); first | done | rfl) ?_
  with_reducible refine (HF.out _ HB0.out).mono ?_
  rintro e w2 ⟨rfl, hb2⟩
  have HB2 := Aside0.mk (below_step HB0.out hb2)
  have hs2 := HSC.out _ (HC.out _ HB2.out)
  clear hb2 hHeld
  refine ⟨_, rfl, ?_⟩
  refine hK.out _ _ hs2 (fun hHeld => ?_)
  clear hK K
  refine norm_ (a' := ?_) ?_ ?_
  rotate_left
  · show Act.put _ (some 9) _ = _
    simp only [Act.put, List.setIfInBounds_toArray, List.set_cons_zero, List.set_cons_succ, i64_w, i32_w]
    rfl
  refine one_ (i := 5) (N := some 10) #[true, true, true, true, true, true, false, false] rfl rfl (by kernel_rfl) (by decide) (fun K hK => ?_)
  refine value_ (by rfl) rfl (v := .slice (some ⟨w2.heap.size, 0, none⟩) 1 1) (w1 := w2.alloc (.cells #[.string f] 9)) (by go_simp) ?_
  refine hK.out _ _ (HSC.out _ (HC.out _ (below_alloc HB2.out _))) (fun hHeld => ?_)
  clear hK K
  refine norm_ (a' := ?_) ?_ ?_
  rotate_left
  · show Act.put _ (some 10) _ = _
    simp only [Act.put, List.setIfInBounds_toArray, List.set_cons_zero, List.set_cons_succ, i64_w, i32_w]
    rfl
  refine one_ (i := 6) (N := some 11) #[true, true, true, true, true, true, true, false] rfl rfl (by kernel_rfl) (by decide) (fun K hK => ?_)
  refine goes_ Tryz.func59 (by kernel_rfl) rfl #[.pointer (some ⟨g, 0, none⟩), .string nm, .slice (some ⟨w2.heap.size, 0, none⟩) 1 1] (by rfl) rfl rfl (by (try simp only [List.map_toArray, List.map_cons, List.map_nil]); first | done | rfl) ?_
  with_reducible refine (HA.out _ HB2.out).mono ?_
  rintro e w3 ⟨rfl, hr3, hh3⟩
  have HR3 := Aside0.mk hr3
  have HH3 := Aside0.mk (Held.trans (Held.below HB2.out HL.out) hh3)
  have hs3 := HSC.out _ ((HC.out _ HB2.out).held hh3)
  clear hr3 hh3 hHeld
  refine ⟨_, rfl, ?_⟩
  refine hK.out _ _ hs3 (fun hHeld => ?_)
  clear hK K
  refine norm_ (a' := ?_) ?_ ?_
  rotate_left
  · show Act.put _ (some 11) _ = _
    simp only [Act.put, List.setIfInBounds_toArray, List.set_cons_zero, List.set_cons_succ, i64_w, i32_w]
    rfl
  refine pure_ (i := 7) (N := some 4) (v := ?_) (a' := ?_) #[true, true, true, true, true, true, true, true] rfl rfl (by kernel_rfl) (fun _ _ _ h => h) (Or.inl ⟨by rfl, ?_⟩) ?_ ?_
  rotate_left
  · intro w'
    go_simp
    with_reducible rfl
  rotate_left
  · simp only [Act.put, List.setIfInBounds_toArray, List.set_cons_zero, List.set_cons_succ, i64_w, i32_w]
    rfl
  refine done_ (by kernel_rfl) ?_
  go_wp2
  go_ret
  exact HP.out _ _ rfl HR3.out HH3.out
set_option maxHeartbeats 2000000 in
set_option maxRecDepth 100000 in
theorem save5_calls (h : RunK w0 w g b s K) (hu : s.uses < 1000000) (hc : Cap w K cd ci ct cn g n d) (hT : SumW.Tab w) (hn : n ≤ 99999999) : Calls Tryz.prog 62 #[.pointer (some ⟨cd, 0, none⟩), .pointer (some ⟨ci, 0, none⟩)] w (StepPost w0 w g b K (st5 n s)) := by
  have HZ : Aside0 (∀ w1, Calls Tryz.prog 64 #[.slice (some ⟨w1.heap.size, 0, none⟩) 1 1] (w1.alloc (.cells #[.int .i64 (n : Int)] 3)) fun e w' => e = .returned (.string (Crc.mkB (Crc.numL n))) ∧ Below w1.heap.size w1 w') := ⟨fun w1 => (sizes1_calls n _ w1.heap.size (blk_new w1 _) hn).mono fun e w' hq => ⟨hq.1, below_step (below_alloc (Below.refl _ _) _) hq.2⟩⟩
  have hnl := Crc.numL_length n
  have HF : Aside0 (∀ w1, Below w.heap.size w w1 → Calls Tryz.prog 63 #[.string (Crc.mkB (Crc.numL n))] w1 fun e w' => e = .returned (.string (markB n)) ∧ Below w1.heap.size w1 w') := ⟨fun w1 hb => framed_calls _ w1 (hT.below hb hT.lt) (by rw [Crc.mkB_size]; omega)⟩
  have HA : Aside0 (∀ w1, Below w.heap.size w w1 → Calls Tryz.prog 59 #[.pointer (some ⟨g, 0, none⟩), .string ⟨#[109, 97, 114, 107, 46, 110, 101, 119]⟩, .slice (some ⟨w1.heap.size, 0, none⟩) 1 1] (w1.alloc (.cells #[.string (markB n)] 9)) fun e w' => e = .returned (.int .i64 (st5 n s).2) ∧ RunK w0 w' g b (st5 n s).1 K ∧ Held K w1 w') := ⟨fun w1 hb => app_S (h.below hb) hu sFresh (markB n) (by have := markB_size n; omega)⟩
  have HC : Aside0 (∀ w1, Below w.heap.size w w1 → Cap w1 K cd ci ct cn g n d) := ⟨fun w1 hb => hc.held (Held.below hb h.lt)⟩
  have HL := Aside0.mk h.lt
  have HP : Aside0 (∀ e w', e = .returned (.int .i64 (st5 n s).2) → RunK w0 w' g b (st5 n s).1 K → Held K w w' → StepPost w0 w g b K (st5 n s) e w') := ⟨fun e w' h1 h2 h3 => ⟨h1, h2, h3⟩⟩
  have HSC : Aside0 (∀ w1, Cap w1 K cd ci ct cn g n d → w1.cell? ⟨cd, 0, none⟩ = some (.pointer (some ⟨g, 0, none⟩)) ∧ w1.cell? ⟨ci, 0, none⟩ = some (.int .i64 (n : Int))) := ⟨fun w1 q => ⟨q.hd, q.hi⟩⟩
  clear h hc hT hnl
  generalize st5 n s = r at HA HP ⊢
  generalize markB n = f at HA HF
  generalize Crc.mkB (Crc.numL n) = z at HZ HF
  have HB0 := Aside0.mk (below_drew (Below.refl w.heap.size w))
  go_enter Tryz.func62, Tryz.ntmps62
  go_wp2_with fail
  refine start_ (n := 8) (S := fun w' => w'.cell? ⟨cd, 0, none⟩ = some (.pointer (some ⟨g, 0, none⟩)) ∧ w'.cell? ⟨ci, 0, none⟩ = some (.int .i64 (n : Int))) (ds := []) #[false, false, false, false, false, false, false, false] (by kernel_rfl) rfl rfl (HSC.out _ (HC.out _ HB0.out)) (fun hHeld => ?_)
  generalize w.drew = w7 at HB0 hHeld ⊢
  refine take_ (i := 0) (N := some 3) (v := ?_) (a' := ?_) #[true, false, false, false, false, false, false, false] rfl rfl (by kernel_rfl) (fun _ _ _ h => h) (Or.inl ⟨by rfl, ?_⟩) hHeld ?_ ?_
  rotate_left
  · rintro w' ⟨q1, q2⟩
    go_simp
    with_reducible rfl
  rotate_left
  · simp only [Act.put, List.setIfInBounds_toArray, List.set_cons_zero, List.set_cons_succ, i64_w, i32_w]
    rfl
  refine take_ (i := 1) (N := some 4) (v := ?_) (a' := ?_) #[true, true, false, false, false, false, false, false] rfl rfl (by kernel_rfl) (fun _ _ _ h => h) (Or.inl ⟨by rfl, ?_⟩) hHeld ?_ ?_
  rotate_left
  · rintro w' ⟨q1, q2⟩
    go_simp
    with_reducible rfl
  rotate_left
  · simp only [Act.put, List.setIfInBounds_toArray, List.set_cons_zero, List.set_cons_succ, i64_w, i32_w]
    rfl
  refine one_ (i := 2) (N := some 5) #[true, true, true, false, false, false, false, false] rfl rfl (by kernel_rfl) (by decide) (fun K hK => ?_)
  refine value_ (by rfl) rfl (v := .slice (some ⟨w7.heap.size, 0, none⟩) 1 1) (w1 := w7.alloc (.cells #[.int .i64 (n : Int)] 3)) (by go_simp) ?_
  refine hK.out _ _ (HSC.out _ (HC.out _ (below_alloc HB0.out _))) (fun hHeld => ?_)
  clear hK K
  refine norm_ (a' := ?_) ?_ ?_
  rotate_left
  · show Act.put _ (some 5) _ = _
    simp only [Act.put, List.setIfInBounds_toArray, List.set_cons_zero, List.set_cons_succ, i64_w, i32_w]
    rfl
  refine one_ (i := 3) (N := some 6) #[true, true, true, true, false, false, false, false] rfl rfl (by kernel_rfl) (by decide) (fun K hK => ?_)
  refine goes_ Tryz.func64 (by kernel_rfl) rfl #[.slice (some ⟨w7.heap.size, 0, none⟩) 1 1] (by rfl) rfl rfl (by (try simp only [List.map_toArray, List.map_cons, List.map_nil]); first | done | rfl) ?_
  with_reducible refine (HZ.out w7).mono ?_
  rintro e w2 ⟨rfl, hb2⟩
  have HB2 := Aside0.mk (below_step HB0.out hb2)
  have hs2 := HSC.out _ (HC.out _ HB2.out)
  clear hb2 hHeld
  refine ⟨_, rfl, ?_⟩
  refine hK.out _ _ hs2 (fun hHeld => ?_)
  clear hK K
  refine norm_ (a' := ?_) ?_ ?_
  rotate_left
  · show Act.put _ (some 6) _ = _
    simp only [Act.put, List.setIfInBounds_toArray, List.set_cons_zero, List.set_cons_succ, i64_w, i32_w]
    rfl
  refine one_ (i := 4) (N := some 7) #[true, true, true, true, true, false, false, false] rfl rfl (by kernel_rfl) (by decide) (fun K hK => ?_)
  refine goes_ Tryz.func63 (by kernel_rfl) rfl #[.string z] (by rfl) rfl rfl (by (try simp only [List.map_toArray, List.map_cons, List.map_nil]); first | done | rfl) ?_
  with_reducible refine (HF.out _ HB2.out).mono ?_
  rintro e w4 ⟨rfl, hb4⟩
  have HB4 := Aside0.mk (below_step HB2.out hb4)
  have hs4 := HSC.out _ (HC.out _ HB4.out)
  clear hb4 hHeld
  refine ⟨_, rfl, ?_⟩
  refine hK.out _ _ hs4 (fun hHeld => ?_)
  clear hK K
  refine norm_ (a' := ?_) ?_ ?_
  rotate_left
  · show Act.put _ (some 7) _ = _
    simp only [Act.put, List.setIfInBounds_toArray, List.set_cons_zero, List.set_cons_succ, i64_w, i32_w]
    rfl
  refine one_ (i := 5) (N := some 8) #[true, true, true, true, true, true, false, false] rfl rfl (by kernel_rfl) (by decide) (fun K hK => ?_)
  refine value_ (by rfl) rfl (v := .slice (some ⟨w4.heap.size, 0, none⟩) 1 1) (w1 := w4.alloc (.cells #[.string f] 9)) (by go_simp) ?_
  refine hK.out _ _ (HSC.out _ (HC.out _ (below_alloc HB4.out _))) (fun hHeld => ?_)
  clear hK K
  refine norm_ (a' := ?_) ?_ ?_
  rotate_left
  · show Act.put _ (some 8) _ = _
    simp only [Act.put, List.setIfInBounds_toArray, List.set_cons_zero, List.set_cons_succ, i64_w, i32_w]
    rfl
  refine one_ (i := 6) (N := some 9) #[true, true, true, true, true, true, true, false] rfl rfl (by kernel_rfl) (by decide) (fun K hK => ?_)
  refine goes_ Tryz.func59 (by kernel_rfl) rfl #[.pointer (some ⟨g, 0, none⟩), .string ⟨#[109, 97, 114, 107, 46, 110, 101, 119]⟩, .slice (some ⟨w4.heap.size, 0, none⟩) 1 1] (by rfl) rfl rfl (by (try simp only [List.map_toArray, List.map_cons, List.map_nil]); first | done | rfl) ?_
  with_reducible refine (HA.out _ HB4.out).mono ?_
  rintro e w3 ⟨rfl, hr3, hh3⟩
  have HR3 := Aside0.mk hr3
  have HH3 := Aside0.mk (Held.trans (Held.below HB4.out HL.out) hh3)
  have hs3 := HSC.out _ ((HC.out _ HB4.out).held hh3)
  clear hr3 hh3 hHeld
  refine ⟨_, rfl, ?_⟩
  refine hK.out _ _ hs3 (fun hHeld => ?_)
  clear hK K
  refine norm_ (a' := ?_) ?_ ?_
  rotate_left
  · show Act.put _ (some 9) _ = _
    simp only [Act.put, List.setIfInBounds_toArray, List.set_cons_zero, List.set_cons_succ, i64_w, i32_w]
    rfl
  refine pure_ (i := 7) (N := some 2) (v := ?_) (a' := ?_) #[true, true, true, true, true, true, true, true] rfl rfl (by kernel_rfl) (fun _ _ _ h => h) (Or.inl ⟨by rfl, ?_⟩) ?_ ?_
  rotate_left
  · intro w'
    go_simp
    with_reducible rfl
  rotate_left
  · simp only [Act.put, List.setIfInBounds_toArray, List.set_cons_zero, List.set_cons_succ, i64_w, i32_w]
    rfl
  refine done_ (by kernel_rfl) ?_
  go_wp2
  go_ret
  exact HP.out _ _ rfl HR3.out HH3.out
end
end Go.Proofs.YtcbbdkennmopdaaGreatDoor.PK
/- snap: all: steps one by one, up to the first error. -/
namespace Go.Proofs.YtcbbdkennmopdaaGreatDoor.PK
open Go.RowKit Go.Proofs.YtcbbdkennmopdaaGreatDoorW.PrintWords Go.Proofs.YtcbbdkennmopdaaGreatDoorW.PrintLast Go.Proofs.YtcbbdkennmopdaaGreatDoorW.PrintMore
open Go.Maps
/-- A step as a function value. -/
structure StepF (w0 w : World) (g b : Nat) (K : Nat → Prop) (Inv : Nat → DS → Prop) (i : Nat) (F : Nat × Array Value) (f : DS → DS × Int) : Prop where
  enters : ∀ args w1, (callFunc F.1 args).run Tryz.prog w1 = .ok (.enter F.1 args) w1
  call : ∀ t w1, Inv i t → RunK w0 w1 g b t K → Held K w w1 → Calls Tryz.prog F.1 F.2 w1 (StepPost w0 w1 g b K (f t))
  inv : ∀ t, Inv i t → Inv (i + 1) (f t).1
set_option maxHeartbeats 2000000 in
set_option maxRecDepth 100000 in
theorem all_calls {w0 w : World} {g b : Nat} {s : DS} {K : Nat → Prop} (Inv : Nat → DS → Prop) (L : Nat) (fns : List (Nat × Array Value)) (steps : List (DS → DS × Int)) (hlen : steps.length = fns.length) (hl : fns.length ≤ 100) (h : RunK w0 w g b s K) (h0 : Inv 0 s) (hL : K L)
    (hcell : ∀ i F, fns[i]? = some F → w.cell? ⟨L, i, none⟩ = some (.func (.func F.1) #[] F.2)) (hst : ∀ i F f, fns[i]? = some F → steps[i]? = some f → StepF w0 w g b K Inv i F f) :
    Calls Tryz.prog 54 #[.slice (some ⟨L, 0, none⟩) fns.length fns.length] w (StepPost w0 w g b K (stepsD steps s)) := by
  have HP : Aside0 (∀ e w', e = .returned (.int .i64 (stepsD steps s).2) → RunK w0 w' g b (stepsD steps s).1 K → Held K w w' → StepPost w0 w g b K (stepsD steps s) e w') := ⟨fun e w' h1 h2 h3 => ⟨h1, h2, h3⟩⟩
  have HH0 := Aside0.mk (Held.refl K w)
  have HR0 := Aside0.mk h
  have HI0 := Aside0.mk h0
  have HKL := Aside0.mk hL
  have HCE := Aside0.mk hcell
  have HST := Aside0.mk hst
  have HLE := Aside0.mk hlen
  have HE0 : Aside0 (stepsD (steps.drop 0) s = stepsD steps s) := ⟨by rw [List.drop_zero]⟩
  clear h h0 hL hcell hst hlen
  generalize stepsD steps s = res at HP HE0 ⊢
  obtain ⟨n, hn⟩ : ∃ n, n = fns.length := ⟨_, rfl⟩
  have HN := Aside0.mk hn
  rw [← hn] at hl ⊢
  clear hn
  go_enter Tryz.func54, Tryz.ntmps54
  go_wp2_with fail
  go_loopg [8] (n + 1) (fun kq v8 w' => ∃ (i : Nat) (t : DS), v8 = .int .i64 (i : Int) ∧ Aside0 (i + kq = n + 1) ∧ i ≤ n ∧ Aside0 (stepsD (steps.drop i) t = res) ∧ Aside0 (Inv i t) ∧ Aside0 (RunK w0 w' g b t K) ∧ Aside0 (Held K w w'))
  case atStart => exact ⟨0, s, rfl, ⟨by omega⟩, Nat.zero_le _, HE0, HI0, HR0, HH0⟩
  case round =>
    clear HE0 HI0 HR0 HH0
    obtain ⟨i, t, rfl, HK, hi, HE, HI, HR, HH⟩ := hrel
    by_cases hin : i < n
    · obtain ⟨F, hF⟩ : ∃ F, fns[i]? = some F := ⟨_, List.getElem?_eq_getElem (by have := HN.out; omega)⟩
      have hsl : i < steps.length := by have h1 := HN.out; have h2 := HLE.out; omega
      have hf := List.getElem?_eq_getElem hsl
      have HSF := HST.out i F _ hF hf
      have hx : wr.cell? ⟨L, i, none⟩ = some (.func (.func F.1) #[] F.2) := (cell_held HH.out ⟨L, i, none⟩ HKL.out).trans (HCE.out i F hF)
      have HDR : Aside0 (steps.drop i = steps[i] :: steps.drop (i + 1)) := ⟨List.drop_eq_getElem_cons hsl⟩
      have eg := HSF.enters
      have HCL := Aside0.mk (HSF.call t wr HI.out HR.out HH.out)
      have HIN := Aside0.mk (HSF.inv t HI.out)
      generalize steps[i] = f at HDR HCL HIN
      have HE2 : Aside0 ((if (f t).2 = 0 then stepsD (steps.drop (i + 1)) (f t).1 else f t) = res) := ⟨by have h9 := HE.out; rw [HDR.out] at h9; exact h9⟩
      clear HSF hF hf
      generalize f t = q at HCL HIN HE2
      obtain ⟨t2, c⟩ := q
      dsimp only at HCL HIN HE2
      unfold StepPost at HCL
      dsimp only at HCL
      obtain ⟨fi, lb⟩ := F
      dsimp only at hx eg HCL
      cases gk with
      | zero => exact absurd HK.out (by omega)
      | succ k1 =>
        by_cases hc : c = 0
        · subst hc
          have HE3 : Aside0 (stepsD (steps.drop (i + 1)) t2 = res) := ⟨by have h9 := HE2.out; rw [if_pos rfl] at h9; exact h9⟩
          go_wp2_with fail
          refine HCL.out.mono ?_
          rintro e w2 ⟨rfl, hr2, hh2⟩
          have HR2 := Aside0.mk hr2
          have HH2 := Aside0.mk (HH.out.trans hh2)
          clear hr2 hh2
          go_wp2_with fail
          go_roundg k1
          case measure => have := HK.out; omega
          case rel => exact ⟨i + 1, t2, by go_num, ⟨by have := HK.out; omega⟩, by omega, HE3, HIN, HR2, HH2⟩
        · have HE3 : Aside0 (res = (t2, c)) := ⟨by have h9 := HE2.out; rw [if_neg hc] at h9; exact h9.symm⟩
          go_wp2_with fail
          refine HCL.out.mono ?_
          rintro e w2 ⟨rfl, hr2, hh2⟩
          have HR2 := Aside0.mk hr2
          have HH2 := Aside0.mk (HH.out.trans hh2)
          clear hr2 hh2
          go_wp2_with fail
          go_ret
          exact HP.out _ _ (by rw [HE3.out]; rfl) (by rw [HE3.out]; exact HR2.out) HH2.out
    · obtain rfl : i = n := by omega
      have HE3 : Aside0 (res = (t, 0)) := ⟨by have h9 := HE.out; rw [List.drop_of_length_le (by have h1 := HN.out; have h2 := HLE.out; omega)] at h9; exact h9.symm⟩
      go_wp2_with fail
      go_ret
      exact HP.out _ _ (by rw [HE3.out]; rfl) (by rw [HE3.out]; exact HR.out) HH.out
end Go.Proofs.YtcbbdkennmopdaaGreatDoor.PK
/- snap: the eight steps of a Save, done by all. -/
namespace Go.Proofs.YtcbbdkennmopdaaGreatDoor.PK
open Go.RowKit Go.Proofs.YtcbbdkennmopdaaGreatDoorW.PrintWords Go.Proofs.YtcbbdkennmopdaaGreatDoorW.PrintLast Go.Proofs.YtcbbdkennmopdaaGreatDoorW.PrintMore
open Go.Maps
theorem dropD_uses (s : DS) (x : ByteArray) : (dropD s x).1.uses ≤ s.uses + 1 := deleteD_uses s x
theorem appS_uses (s : DS) (x y : ByteArray) : (appS s x y).1.uses ≤ s.uses + 1 := by
  have := useD_uses s
  unfold appS
  dsimp only
  split
  · exact this
  · exact this
theorem syncD_uses (s : DS) (l : List ByteArray) : (syncD s l).1.uses ≤ s.uses + 1 := by
  have := useD_uses s
  unfold syncD
  split
  · exact this
  · exact this
theorem renameD_uses (s : DS) (a c : ByteArray) : (renameD s a c).1.uses ≤ s.uses + 1 := by
  have := useD_uses s
  unfold renameD
  split
  · cases getF (beginD s [a, c]).1.files a with
    | none => exact this
    | some f => exact this
  · exact this
def ptrC (k : Nat) : Value := .pointer (some ⟨k, 0, none⟩)
def saveFns (cd ci ct cn : Nat) : List (Nat × Array Value) :=
  [(55, #[ptrC cd, ptrC cn]), (57, #[ptrC cd]), (58, #[ptrC cd, ptrC cn, ptrC ci, ptrC ct]), (61, #[ptrC cd, ptrC cn]), (62, #[ptrC cd, ptrC ci]), (65, #[ptrC cd]), (66, #[ptrC cd]), (68, #[ptrC cd, ptrC cn])]
theorem ent1 (args : Array Value) (w : World) : (callFunc 55 args).run Tryz.prog w = .ok (.enter 55 args) w := enters_of Tryz.func55 (by kernel_rfl) rfl args w
theorem ent2 (args : Array Value) (w : World) : (callFunc 57 args).run Tryz.prog w = .ok (.enter 57 args) w := enters_of Tryz.func57 (by kernel_rfl) rfl args w
theorem ent3 (args : Array Value) (w : World) : (callFunc 58 args).run Tryz.prog w = .ok (.enter 58 args) w := enters_of Tryz.func58 (by kernel_rfl) rfl args w
theorem ent4 (args : Array Value) (w : World) : (callFunc 61 args).run Tryz.prog w = .ok (.enter 61 args) w := enters_of Tryz.func61 (by kernel_rfl) rfl args w
theorem ent5 (args : Array Value) (w : World) : (callFunc 62 args).run Tryz.prog w = .ok (.enter 62 args) w := enters_of Tryz.func62 (by kernel_rfl) rfl args w
theorem ent6 (args : Array Value) (w : World) : (callFunc 65 args).run Tryz.prog w = .ok (.enter 65 args) w := enters_of Tryz.func65 (by kernel_rfl) rfl args w
theorem ent7 (args : Array Value) (w : World) : (callFunc 66 args).run Tryz.prog w = .ok (.enter 66 args) w := enters_of Tryz.func66 (by kernel_rfl) rfl args w
theorem ent8 (args : Array Value) (w : World) : (callFunc 68 args).run Tryz.prog w = .ok (.enter 68 args) w := enters_of Tryz.func68 (by kernel_rfl) rfl args w
theorem save_all {w0 w : World} {g b : Nat} {s : DS} {K : Nat → Prop} {cd ci ct cn n : Nat} {d : ByteArray} (L : Nat) (h : RunK w0 w g b s K) (hu : s.uses < 800000) (hc : Cap w K cd ci ct cn g n d) (hT : SumW.Tab w0) (hn : n ≤ 99999999) (hd : d.size ≤ 960000) (hL : K L)
    (hcell : ∀ i F, (saveFns cd ci ct cn)[i]? = some F → w.cell? ⟨L, i, none⟩ = some (.func (.func F.1) #[] F.2)) :
    Calls Tryz.prog 54 #[.slice (some ⟨L, 0, none⟩) 8 8] w (StepPost w0 w g b K (stepsD (saveL n d) s)) := by
  have hTb : ∀ t w1, RunK w0 w1 g b t K → SumW.Tab w1 := fun t w1 hr => hT.below hr.bel hT.lt
  refine all_calls (fun i t => i ≤ 7 → t.uses ≤ s.uses + (i : Int)) L (saveFns cd ci ct cn) (saveL n d) rfl (by show 8 ≤ 100; omega) h (fun _ => by simp) hL hcell ?_
  intro i F f hF hf
  have hi : i < 8 := by
    have := (List.getElem?_eq_some_iff.1 hF).1
    exact this
  match i, hi, hF, hf with
  | 0, _, hF, hf =>
    cases hF; cases hf
    exact ⟨ent1, fun t w1 hI hr hh => save1_calls hr (by have := hI (by omega); omega) (hc.held hh), fun t hI _ => by have h1 := hI (by omega); have h2 := dropD_uses t (nameN n); show (dropD t (nameN n)).1.uses ≤ _; omega⟩
  | 1, _, hF, hf =>
    cases hF; cases hf
    exact ⟨ent2, fun t w1 hI hr hh => save2_calls hr (by have := hI (by omega); omega) (hc.held hh), fun t hI _ => by have h1 := hI (by omega); have h2 := dropD_uses t sFresh; show (dropD t sFresh).1.uses ≤ _; omega⟩
  | 2, _, hF, hf =>
    cases hF; cases hf
    exact ⟨ent3, fun t w1 hI hr hh => save3_calls hr (by have := hI (by omega); omega) (hc.held hh) (hTb t w1 hr) hn hd, fun t hI _ => by have h1 := hI (by omega); have h2 := appS_uses t (nameN n) (fileB n d); show (appS t (nameN n) (fileB n d)).1.uses ≤ _; omega⟩
  | 3, _, hF, hf =>
    cases hF; cases hf
    exact ⟨ent4, fun t w1 hI hr hh => save4_calls hr (by have := hI (by omega); omega) (hc.held hh), fun t hI _ => by have h1 := hI (by omega); have h2 := syncD_uses t [nameN n]; show (syncD t [nameN n]).1.uses ≤ _; omega⟩
  | 4, _, hF, hf =>
    cases hF; cases hf
    exact ⟨ent5, fun t w1 hI hr hh => save5_calls hr (by have := hI (by omega); omega) (hc.held hh) (hTb t w1 hr) hn, fun t hI _ => by have h1 := hI (by omega); have h2 := appS_uses t sFresh (markB n); show (appS t sFresh (markB n)).1.uses ≤ _; omega⟩
  | 5, _, hF, hf =>
    cases hF; cases hf
    exact ⟨ent6, fun t w1 hI hr hh => save6_calls hr (by have := hI (by omega); omega) (hc.held hh), fun t hI _ => by have h1 := hI (by omega); have h2 := syncD_uses t [sFresh]; show (syncD t [sFresh]).1.uses ≤ _; omega⟩
  | 6, _, hF, hf =>
    cases hF; cases hf
    exact ⟨ent7, fun t w1 hI hr hh => save7_calls hr (by have := hI (by omega); omega) (hc.held hh), fun t hI _ => by have h1 := hI (by omega); have h2 := renameD_uses t sFresh sMark; show (renameD t sFresh sMark).1.uses ≤ _; omega⟩
  | 7, _, hF, hf =>
    cases hF; cases hf
    exact ⟨ent8, fun t w1 hI hr hh => save8_calls hr (by have := hI (by omega); omega) (hc.held hh), fun t hI h8 => by omega⟩
end Go.Proofs.YtcbbdkennmopdaaGreatDoor.PK
/- snap: Save. -/
namespace Go.Proofs.YtcbbdkennmopdaaGreatDoor.PK
open Go.RowKit Go.Proofs.YtcbbdkennmopdaaGreatDoorW.PrintWords Go.Proofs.YtcbbdkennmopdaaGreatDoorW.PrintLast Go.Proofs.YtcbbdkennmopdaaGreatDoorW.PrintMore
open Go.Maps
theorem saveC_arg {s : DS} {n : Int} {d : ByteArray} (h : mayS n = false) : saveD s n d = (s, 1) := by
  have e : saveC s n d = 1 := by unfold saveC; rw [if_pos h]
  unfold saveD
  rw [e, if_neg (by decide)]
theorem saveC_off {s : DS} {n : Int} {d : ByteArray} (h : mayS n = true) (h1 : s.off = true) : saveD s n d = (s, 7) := by
  have e : saveC s n d = 7 := by unfold saveC; rw [if_neg (by rw [h]; decide), if_pos h1]
  unfold saveD
  rw [e, if_neg (by decide)]
theorem saveC_twice {s : DS} {n : Int} {d : ByteArray} (h : mayS n = true) (h1 : s.off = false) (h2 : (loadD s).2.2 = 0 ∧ (loadD s).1 = n) : saveD s n d = (s, 9) := by
  have e : saveC s n d = 9 := by unfold saveC; rw [if_neg (by rw [h]; decide), if_neg (by rw [h1]; decide), if_pos h2]
  unfold saveD
  rw [e, if_neg (by decide)]
theorem saveC_long {s : DS} {n : Int} {d : ByteArray} (h : mayS n = true) (h1 : s.off = false) (h2 : ¬ ((loadD s).2.2 = 0 ∧ (loadD s).1 = n)) (h3 : 960000 < d.size) : saveD s n d = (s, 5) := by
  have e : saveC s n d = 5 := by unfold saveC; rw [if_neg (by rw [h]; decide), if_neg (by rw [h1]; decide), if_neg h2, if_pos h3]
  unfold saveD
  rw [e, if_neg (by decide)]
theorem saveC_full {s : DS} {n : Int} {d : ByteArray} (h : mayS n = true) (h1 : s.off = false) (h2 : ¬ ((loadD s).2.2 = 0 ∧ (loadD s).1 = n)) (h3 : ¬ 960000 < d.size) (h4 : freeD s < (needN 99999999 d : Int) ∨ 98 ≤ s.files.length) : saveD s n d = (s, 6) := by
  have e : saveC s n d = 6 := by unfold saveC; rw [if_neg (by rw [h]; decide), if_neg (by rw [h1]; decide), if_neg h2, if_neg h3, if_pos h4]
  unfold saveD
  rw [e, if_neg (by decide)]
theorem saveC_ok {s : DS} {n : Int} {d : ByteArray} (h : mayS n = true) (h1 : s.off = false) (h2 : ¬ ((loadD s).2.2 = 0 ∧ (loadD s).1 = n)) (h3 : ¬ 960000 < d.size) (h4 : ¬ (freeD s < (needN 99999999 d : Int) ∨ 98 ≤ s.files.length)) : saveD s n d = stepsD (saveL n.toNat d) s := by
  have e : saveC s n d = 0 := by unfold saveC; rw [if_neg (by rw [h]; decide), if_neg (by rw [h1]; decide), if_neg h2, if_neg h3, if_neg h4]
  unfold saveD
  rw [e, if_pos rfl]
set_option maxHeartbeats 4000000 in
set_option maxRecDepth 100000 in
theorem Save_calls {w0 w : World} {g b : Nat} {s : DS} {K : Nat → Prop} (h : RunK w0 w g b s K) (hu : s.uses < 800000) (hT : SumW.Tab w0) (n : Int) (A : Option Addr) (c : Nat) (l : List ByteArray) (hC : Kd.C Kd.string w A l.length l) (hc : l.length ≤ c) (hl : l.length ≤ 1000) (hs : sumS l ≤ 100000000) :
    Calls Tryz.prog 14 #[.pointer (some ⟨g, 0, none⟩), .int .i64 n, .slice A l.length c] w (StepPost w0 w g b K (saveD s n (catS l))) := by
  have H0 := Aside0.mk h
  have HTT := Aside0.mk hT
  obtain ⟨d, hd⟩ : ∃ d, d = catS l := ⟨_, rfl⟩
  have hds : d.size ≤ 100000000 := by rw [hd, catS_size]; exact hs
  obtain ⟨m, hm⟩ : ∃ m, m = l.length := ⟨_, rfl⟩
  have HJ : Aside0 (∀ w1, Below w.heap.size w w1 → Calls Tryz.prog 50 #[.slice A m c, .string ⟨#[]⟩] w1 fun e w' => e = .returned (.string d) ∧ Below w1.heap.size w1 w') := ⟨fun w1 hb => by rw [hm, hd]; exact strings_Join.calls A c l ⟨#[]⟩ (catS l) w1 (Kd.C_below hC hb) hc (join_cat l (by omega) (by omega))⟩
  rw [← hd, ← hm]
  have HP : Aside0 (∀ e w' r, saveD s n d = r → e = .returned (.int .i64 r.2) → RunK w0 w' g b r.1 K → Held K w w' → StepPost w0 w g b K (saveD s n d) e w') := ⟨fun e w' r hr h1 h2 h3 => by rw [hr]; exact ⟨h1, h2, h3⟩⟩
  have HTB : Aside0 (∀ w1, Below w.heap.size w w1 → SumW.Tab w1) := ⟨fun w1 hb => hT.below (h.below hb).bel hT.lt⟩
  clear h hT hd hC hc hl hs hm l
  go_enter Tryz.func14, Tryz.ntmps14
  go_wp2_with fail
  refine (HJ.out _ (below_alloc (below_alloc (Below.refl _ _) _) _)).mono ?_
  rintro e w1 ⟨rfl, hb1⟩
  go_upto_region 2 with fail
  have hp1 : Below w.heap.size w ((w.alloc (.cells #[.pointer (some ⟨g, 0, none⟩)] 23)).alloc (.cells #[.int .i64 n] 3)) := below_alloc (below_alloc (Below.refl _ _) _) _
  have hz2 : ((w.alloc (.cells #[.pointer (some ⟨g, 0, none⟩)] 23)).alloc (.cells #[.int .i64 n] 3)).heap.size = w.heap.size + 2 := by rw [alloc_size, alloc_size]
  have hbd : w1.heap[w.heap.size]? = some (.cells #[.pointer (some ⟨g, 0, none⟩)] 23 (0, 0)) := by
    have hone : ∀ o : Obj, ((w.alloc (.cells #[.pointer (some ⟨g, 0, none⟩)] 23)).alloc o).heap[w.heap.size]? = (w.alloc (.cells #[.pointer (some ⟨g, 0, none⟩)] 23)).heap[w.heap.size]? := fun o => (below_alloc (Below.refl _ (w.alloc (.cells #[.pointer (some ⟨g, 0, none⟩)] 23))) o).block _ (by rw [alloc_size]; exact Nat.lt_succ_self _)
    rw [hb1.block _ (by rw [hz2]; omega), hone]
    exact blk_new w _
  have hbi : w1.heap[w.heap.size + 1]? = some (.cells #[.int .i64 n] 3 (0, 0)) := by
    rw [hb1.block _ (by rw [hz2]; omega)]
    exact blk_new2 w _ _
  have hB1 : Below w.heap.size w w1 := below_step hp1 hb1
  have hba := below_alloc (Below.refl w1.heap.size w1) (.cells #[.string d] 9)
  have hbd2 := (hba.block _ (blk_lt hbd)).trans hbd
  have hbi2 := (hba.block _ (blk_lt hbi)).trans hbi
  have hbt2 := blk_new w1 (.cells #[.string d] 9)
  have hB2 := below_step hB1 hba
  have hct : w.heap.size ≤ w1.heap.size := hB1.size
  generalize w1.alloc (.cells #[.string d] 9) = wa at hbd2 hbi2 hbt2 hB2 ⊢
  generalize w1.heap.size = ct at hbt2 hct ⊢
  clear hba hB1 hbi hbd hz2 hp1 hb1
  have hld := blk_cell hbi2 0
  simp only [List.getElem?_toArray, List.getElem?_cons_zero] at hld
  have HX := Aside0.mk hbd2
  have HY := Aside0.mk hbi2
  have HZ := Aside0.mk hbt2
  have HB2 := Aside0.mk hB2
  clear hbd2 hbi2 hbt2 hB2
  go_wp2_with fail
  refine (Name_calls n wa).mono ?_
  rintro e w2 ⟨rfl, hb2⟩
  go_upto_region 3 with fail
  have hba := below_alloc (Below.refl w2.heap.size w2) (.cells #[.string (nameS n)] 9)
  have hB3 := below_step (below_step HB2.out hb2) hba
  have hx3 := (hba.block _ (Nat.lt_of_lt_of_le (blk_lt HX.out) hb2.size)).trans ((hb2.block _ (blk_lt HX.out)).trans HX.out)
  have hy3 := (hba.block _ (Nat.lt_of_lt_of_le (blk_lt HY.out) hb2.size)).trans ((hb2.block _ (blk_lt HY.out)).trans HY.out)
  have hz3 := (hba.block _ (Nat.lt_of_lt_of_le (blk_lt HZ.out) hb2.size)).trans ((hb2.block _ (blk_lt HZ.out)).trans HZ.out)
  have hn3 := blk_new w2 (.cells #[.string (nameS n)] 9)
  have hcn : w.heap.size ≤ w2.heap.size := Nat.le_trans HB2.out.size hb2.size
  generalize w2.alloc (.cells #[.string (nameS n)] 9) = wb at hx3 hy3 hz3 hn3 hB3 ⊢
  generalize w2.heap.size = cn at hn3 hcn ⊢
  have HCS : Aside0 (∀ w', Below wb.heap.size wb w' → w'.cell? ⟨w.heap.size, 0, none⟩ = some (.pointer (some ⟨g, 0, none⟩)) ∧ w'.cell? ⟨w.heap.size + 1, 0, none⟩ = some (.int .i64 n) ∧ w'.cell? ⟨ct, 0, none⟩ = some (.string d) ∧ w'.cell? ⟨cn, 0, none⟩ = some (.string (nameS n))) := ⟨fun w' hb => ⟨blk_cell ((hb.block _ (blk_lt hx3)).trans hx3) 0, blk_cell ((hb.block _ (blk_lt hy3)).trans hy3) 0, blk_cell ((hb.block _ (blk_lt hz3)).trans hz3) 0, blk_cell ((hb.block _ (blk_lt hn3)).trans hn3) 0⟩⟩
  have HLT : Aside0 (w.heap.size + 1 < wb.heap.size ∧ ct < wb.heap.size ∧ cn < wb.heap.size) := ⟨⟨blk_lt hy3, blk_lt hz3, blk_lt hn3⟩⟩
  have HB3 := Aside0.mk hB3
  obtain ⟨q1, q2, q3, q4⟩ := HCS.out wb (Below.refl _ _)
  clear hba hb2 hx3 hy3 hz3 hn3 hB3 hld HX HY HZ HB2
  by_cases hmay : mayS n = true
  · have hn0 : 0 ≤ n ∧ n ≤ 99999999 := by unfold mayS at hmay; simpa using hmay
    obtain ⟨k, rfl⟩ : ∃ k : Nat, n = (k : Int) := ⟨n.toNat, by omega⟩
    have hk : k ≤ 99999999 := by omega
    have HNM : Aside0 (nameS (k : Int) = nameN k) := ⟨nameS_nat k hk⟩
    have HMY := Aside0.mk hmay
    rw [HNM.out] at q4 HCS
    have hnz : (nameN k).toList.isEmpty = false := by
      rw [Bool.eq_false_iff]
      intro e
      rw [List.isEmpty_iff] at e
      have h9 := nameN_size k
      rw [ByteArray.toList_eq] at e
      have h8 : (nameN k).data.toList.length = (nameN k).size := toList_size _
      rw [e, h9] at h8
      cases h8
    clear hmay hn0
    have HON := Aside0.mk (on_S (H0.out.below HB3.out))
    cases hoff : s.off with
    | true =>
      rw [hoff] at HON
      have HOF := Aside0.mk hoff
      clear hoff
      go_wp2_with fail
      refine HON.out.mono ?_
      rintro e w3 ⟨rfl, rfl⟩
      go_wp2_with fail
      go_ret
      exact HP.out _ _ (s, 7) (saveC_off HMY.out HOF.out) rfl (H0.out.below HB3.out) (Held.below HB3.out H0.out.lt)
    | false =>
      rw [hoff] at HON
      have HOF := Aside0.mk hoff
      have HCT := Aside0.mk (counts_calls (H0.out.below HB3.out) (HTB.out _ HB3.out) (k : Int))
      clear hoff
      by_cases htw : (loadD s).2.2 = 0 ∧ (loadD s).1 = (k : Int)
      · have HTW := Aside0.mk htw
        rw [decide_eq_true htw] at HCT
        clear htw
        go_wp2_with fail
        refine HON.out.mono ?_
        rintro e w3 ⟨rfl, rfl⟩
        go_wp2_with fail
        refine HCT.out.mono ?_
        rintro e w4 ⟨rfl, hb4⟩
        have HB4 := Aside0.mk (below_step HB3.out hb4)
        clear hb4
        go_wp2_with fail
        go_ret
        exact HP.out _ _ (s, 9) (saveC_twice HMY.out HOF.out HTW.out) rfl (H0.out.below HB4.out) (Held.below HB4.out H0.out.lt)
      · have HTW := Aside0.mk htw
        rw [decide_eq_false htw] at HCT
        clear htw
        go_wp2_with fail
        refine HON.out.mono ?_
        rintro e w3 ⟨rfl, rfl⟩
        go_wp2_with fail
        refine HCT.out.mono ?_
        rintro e w4 ⟨rfl, hb4⟩
        obtain ⟨p1, p2, p3, p4⟩ := HCS.out w4 hb4
        have HB4 := Aside0.mk (below_step HB3.out hb4)
        have HBB := Aside0.mk hb4
        clear hb4 q1 q2 q3 q4
        by_cases hlong : 960000 < d.size
        · have hgt : (d.size : Int) > 960000 := by omega
          have HLG := Aside0.mk hlong
          clear hlong
          go_wp2_with fail
          go_ret
          exact HP.out _ _ (s, 5) (saveC_long HMY.out HOF.out HTW.out HLG.out) rfl (H0.out.below HB4.out) (Held.below HB4.out H0.out.lt)
        · have hgt : ¬ ((d.size : Int) > 960000) := by omega
          have HLG := Aside0.mk hlong
          clear hlong
          have hdz : d.size ≤ 960000 := Nat.le_of_not_lt HLG.out
          have HND : Aside0 (∀ w1, Below w.heap.size w w1 → Calls Tryz.prog 53 #[.slice (some ⟨w1.heap.size, 0, none⟩) 1 1] (w1.alloc (.cells #[.string d] 9)) fun e w' => e = .returned (.int .i64 (needN 99999999 d : Nat)) ∧ Below w1.heap.size w1 w') := ⟨fun w1 hb => by
            have hb9 := below_alloc (Below.refl w1.heap.size w1) (.cells #[.string d] 9)
            have h9 := Need_calls (some ⟨w1.heap.size, 0, none⟩) 1 [d] (w1.alloc (.cells #[.string d] 9)) (HTB.out _ (below_step hb hb9)) (strC_blk (blk_new w1 _) (by simp)) (by simp) (by simp) (by show ([d].map (·.size)).sum ≤ _; simpa using hdz)
            rw [catS_one] at h9
            exact h9.mono fun e w' hq => ⟨hq.1, below_step hb9 hq.2⟩⟩
          have HFR : Aside0 (∀ w1, Below w.heap.size w w1 → Calls Tryz.prog 34 #[.pointer (some ⟨g, 0, none⟩)] w1 fun e w' => e = .returned (.int .i64 (freeD s)) ∧ Below w1.heap.size w1 w') := ⟨fun w1 hb => free_S (H0.out.below hb)⟩
          have HNA : Aside0 (∀ w1, Below w.heap.size w w1 → Calls Tryz.prog 15 #[.pointer (some ⟨g, 0, none⟩), .slice none 0 0] w1 fun e w' => ∃ A c, e = .returned (.slice A s.files.length c) ∧ Below w1.heap.size w1 w') := ⟨fun w1 hb => (names_S (H0.out.below hb) none 0 [] (Kd.C_of_reads (d := ByteArray.empty) ⟨rfl, Nat.zero_le _, fun h => absurd h (Nat.lt_irrefl _)⟩)).mono fun e w' hq => by
            obtain ⟨v, rfl, hr, hb2⟩ := hq
            obtain ⟨A, c, rfl⟩ := Kd.R_slice hr
            rw [namesD_all] at hr ⊢
            have e9 : (namesF s.files).length = s.files.length := List.length_map _
            rw [e9]
            exact ⟨A, c, rfl, hb2⟩⟩
          have HSC : Aside0 (∀ w', Below wb.heap.size wb w' → w'.cell? ⟨w.heap.size, 0, none⟩ = some (.pointer (some ⟨g, 0, none⟩)) ∧ w'.cell? ⟨ct, 0, none⟩ = some (.string d)) := ⟨fun w' hb => ⟨(HCS.out w' hb).1, (HCS.out w' hb).2.2.1⟩⟩
          have HB5 := Aside0.mk (below_drew HB4.out)
          have HBB5 := Aside0.mk (below_drew HBB.out)
          obtain ⟨fr, hfr⟩ : ∃ x, x = freeD s := ⟨_, rfl⟩
          obtain ⟨nd, hnd⟩ : ∃ x, x = needN 99999999 d := ⟨_, rfl⟩
          obtain ⟨fl, hfl⟩ : ∃ x, x = s.files.length := ⟨_, rfl⟩
          rw [← hfr] at HFR
          rw [← hnd] at HND
          rw [← hfl] at HNA
          have HEQ : Aside0 ((freeD s < (needN 99999999 d : Int) ∨ 98 ≤ s.files.length) ↔ (fr < (nd : Int) ∨ 98 ≤ fl)) := ⟨by rw [hfr, hnd, hfl]⟩
          clear hfr hnd hfl
          by_cases hfull : fr < (nd : Int)
          · have hfg : (nd : Int) > fr := hfull
            have HFU : Aside0 (fr < (nd : Int)) := ⟨hfull⟩
            clear hfull
            go_wp2_with fail
            refine start_ (n := 13) (S := fun w' => w'.cell? ⟨w.heap.size, 0, none⟩ = some (.pointer (some ⟨g, 0, none⟩)) ∧ w'.cell? ⟨ct, 0, none⟩ = some (.string d)) (ds := []) #[false, false, false, false, false, false, false, false, false, false, false, false, false] (by kernel_rfl) rfl rfl (HSC.out _ HBB5.out) (fun hHeld => ?_)
            generalize w4.drew = w5 at HB5 HBB5 hHeld ⊢
            refine take_ (i := 0) (N := some 33) (v := ?_) (a' := ?_) #[true, false, false, false, false, false, false, false, false, false, false, false, false] rfl rfl (by kernel_rfl) (fun _ _ _ h => h) (Or.inl ⟨by rfl, ?_⟩) hHeld ?_ ?_
            rotate_left
            · rintro w' ⟨q1, q2⟩
              go_simp
              with_reducible rfl
            rotate_left
            · simp only [Act.put, List.setIfInBounds_toArray, List.set_cons_zero, List.set_cons_succ, i64_w, i32_w]
              rfl
            refine take_ (i := 3) (N := some 36) (v := ?_) (a' := ?_) #[true, false, false, true, false, false, false, false, false, false, false, false, false] rfl rfl (by kernel_rfl) (fun _ _ _ h => h) (Or.inl ⟨by rfl, ?_⟩) hHeld ?_ ?_
            rotate_left
            · rintro w' ⟨q1, q2⟩
              go_simp
              with_reducible rfl
            rotate_left
            · simp only [Act.put, List.setIfInBounds_toArray, List.set_cons_zero, List.set_cons_succ, i64_w, i32_w]
              rfl
            refine one_ (i := 1) (N := some 34) #[true, true, false, true, false, false, false, false, false, false, false, false, false] rfl rfl (by kernel_rfl) (by decide) (fun K hK => ?_)
            refine value_ (by rfl) rfl (v := .slice (some ⟨w5.heap.size, 0, none⟩) 1 1) (w1 := w5.alloc (.cells #[.string d] 9)) (by go_simp) ?_
            refine hK.out _ _ (HSC.out _ (below_step HBB5.out (below_alloc (Below.refl _ _) _))) (fun hHeld => ?_)
            clear hK K
            refine norm_ (a' := ?_) ?_ ?_
            rotate_left
            · show Act.put _ (some 34) _ = _
              simp only [Act.put, List.setIfInBounds_toArray, List.set_cons_zero, List.set_cons_succ, i64_w, i32_w]
              rfl
            refine one_ (i := 2) (N := some 35) #[true, true, true, true, false, false, false, false, false, false, false, false, false] rfl rfl (by kernel_rfl) (by decide) (fun K hK => ?_)
            refine goes_ Tryz.func53 (by kernel_rfl) rfl #[.slice (some ⟨w5.heap.size, 0, none⟩) 1 1] (by rfl) rfl rfl (by (try simp only [List.map_toArray, List.map_cons, List.map_nil]); first | done | rfl) ?_
            with_reducible refine (HND.out _ HB5.out).mono ?_
            rintro e w6 ⟨rfl, hb6⟩
            have HB6 := Aside0.mk (below_step HB5.out hb6)
            have HBB6 := Aside0.mk (below_step HBB5.out hb6)
            have hs6 := HSC.out _ HBB6.out
            clear hb6 hHeld
            refine ⟨_, rfl, ?_⟩
            refine hK.out _ _ hs6 (fun hHeld => ?_)
            clear hK K
            refine norm_ (a' := ?_) ?_ ?_
            rotate_left
            · show Act.put _ (some 35) _ = _
              simp only [Act.put, List.setIfInBounds_toArray, List.set_cons_zero, List.set_cons_succ, i64_w, i32_w]
              rfl
            refine one_ (i := 4) (N := some 37) #[true, true, true, true, true, false, false, false, false, false, false, false, false] rfl rfl (by kernel_rfl) (by decide) (fun K hK => ?_)
            refine goes_ Tryz.func34 (by kernel_rfl) rfl #[.pointer (some ⟨g, 0, none⟩)] (by rfl) rfl rfl (by (try simp only [List.map_toArray, List.map_cons, List.map_nil]); first | done | rfl) ?_
            with_reducible refine (HFR.out _ HB6.out).mono ?_
            rintro e w7 ⟨rfl, hb7⟩
            have HB7 := Aside0.mk (below_step HB6.out hb7)
            have HBB7 := Aside0.mk (below_step HBB6.out hb7)
            have hs7 := HSC.out _ HBB7.out
            clear hb7 hHeld
            refine ⟨_, rfl, ?_⟩
            refine hK.out _ _ hs7 (fun hHeld => ?_)
            clear hK K
            refine norm_ (a' := ?_) ?_ ?_
            rotate_left
            · show Act.put _ (some 37) _ = _
              simp only [Act.put, List.setIfInBounds_toArray, List.set_cons_zero, List.set_cons_succ, i64_w, i32_w]
              rfl
            refine pure_ (i := 5) (N := some 38) (v := ?_) (a' := ?_) #[true, true, true, true, true, true, false, false, false, false, false, false, false] rfl rfl (by kernel_rfl) (fun _ _ _ h => h) (Or.inl ⟨by rfl, ?_⟩) ?_ ?_
            rotate_left
            · intro w'
              go_simp
              with_reducible rfl
            rotate_left
            · simp only [Act.put, List.setIfInBounds_toArray, List.set_cons_zero, List.set_cons_succ, i64_w, i32_w]
              rfl
            refine pure_ (i := 6) (N := some 39) (v := ?_) (a' := ?_) #[true, true, true, true, true, true, true, false, false, false, false, false, false] rfl rfl (by kernel_rfl) (fun _ _ _ h => h) (Or.inl ⟨by rfl, ?_⟩) ?_ ?_
            rotate_left
            · intro w'
              go_simp
              with_reducible rfl
            rotate_left
            · simp only [Act.put, List.setIfInBounds_toArray, List.set_cons_zero, List.set_cons_succ, i64_w, i32_w]
              rfl
            refine pure_ (i := 7) (N := some 40) (v := undef) (a' := ?_) #[true, true, true, true, true, true, true, true, false, false, false, false, false] rfl rfl (by kernel_rfl) (fun _ _ _ h => h) (Or.inr ⟨by rfl, rfl⟩) ?_ ?_
            rotate_left
            · simp only [Act.put, List.setIfInBounds_toArray, List.set_cons_zero, List.set_cons_succ, i64_w, i32_w]
              rfl
            refine pure_ (i := 8) (N := some 41) (v := undef) (a' := ?_) #[true, true, true, true, true, true, true, true, true, false, false, false, false] rfl rfl (by kernel_rfl) (fun _ _ _ h => h) (Or.inr ⟨by rfl, rfl⟩) ?_ ?_
            rotate_left
            · simp only [Act.put, List.setIfInBounds_toArray, List.set_cons_zero, List.set_cons_succ, i64_w, i32_w]
              rfl
            refine pure_ (i := 9) (N := some 42) (v := undef) (a' := ?_) #[true, true, true, true, true, true, true, true, true, true, false, false, false] rfl rfl (by kernel_rfl) (fun _ _ _ h => h) (Or.inr ⟨by rfl, rfl⟩) ?_ ?_
            rotate_left
            · simp only [Act.put, List.setIfInBounds_toArray, List.set_cons_zero, List.set_cons_succ, i64_w, i32_w]
              rfl
            refine pure_ (i := 10) (N := some 43) (v := undef) (a' := ?_) #[true, true, true, true, true, true, true, true, true, true, true, false, false] rfl rfl (by kernel_rfl) (fun _ _ _ h => h) (Or.inr ⟨by rfl, rfl⟩) ?_ ?_
            rotate_left
            · simp only [Act.put, List.setIfInBounds_toArray, List.set_cons_zero, List.set_cons_succ, i64_w, i32_w]
              rfl
            refine pure_ (i := 11) (N := some 44) (v := ?_) (a' := ?_) #[true, true, true, true, true, true, true, true, true, true, true, true, false] rfl rfl (by kernel_rfl) (fun _ _ _ h => h) (Or.inl ⟨by rfl, ?_⟩) ?_ ?_
            rotate_left
            · intro w'
              go_simp
              with_reducible rfl
            rotate_left
            · simp only [Act.put, List.setIfInBounds_toArray, List.set_cons_zero, List.set_cons_succ, i64_w, i32_w]
              rfl
            refine pure_ (i := 12) (N := some 32) (v := ?_) (a' := ?_) #[true, true, true, true, true, true, true, true, true, true, true, true, true] rfl rfl (by kernel_rfl) (fun _ _ _ h => h) (Or.inl ⟨by rfl, ?_⟩) ?_ ?_
            rotate_left
            · intro w'
              go_simp
              with_reducible rfl
            rotate_left
            · simp only [Act.put, List.setIfInBounds_toArray, List.set_cons_zero, List.set_cons_succ, i64_w, i32_w]
              rfl
            refine done_ (by kernel_rfl) ?_
            go_wp2_with fail
            go_ret
            exact HP.out _ _ (s, 6) (saveC_full HMY.out HOF.out HTW.out HLG.out (HEQ.out.2 (.inl HFU.out))) rfl (H0.out.below HB7.out) (Held.below HB7.out H0.out.lt)
          · have hfg : decide (fr < (nd : Int)) = false := decide_eq_false hfull
            have hfg2 : decide ((nd : Int) > fr) = false := decide_eq_false hfull
            have HFU := Aside0.mk hfull
            by_cases hmany : 98 ≤ fl
            · have hmi : decide ((fl : Int) ≥ 98) = true := decide_eq_true (by omega)
              have hmi2 : decide (98 ≤ fl) = true := decide_eq_true hmany
              have HMN := Aside0.mk hmany
              go_wp2_with fail
              refine start_ (n := 13) (S := fun w' => w'.cell? ⟨w.heap.size, 0, none⟩ = some (.pointer (some ⟨g, 0, none⟩)) ∧ w'.cell? ⟨ct, 0, none⟩ = some (.string d)) (ds := []) #[false, false, false, false, false, false, false, false, false, false, false, false, false] (by kernel_rfl) rfl rfl (HSC.out _ HBB5.out) (fun hHeld => ?_)
              generalize w4.drew = w5 at HB5 HBB5 hHeld ⊢
              refine take_ (i := 0) (N := some 33) (v := ?_) (a' := ?_) #[true, false, false, false, false, false, false, false, false, false, false, false, false] rfl rfl (by kernel_rfl) (fun _ _ _ h => h) (Or.inl ⟨by rfl, ?_⟩) hHeld ?_ ?_
              rotate_left
              · rintro w' ⟨q1, q2⟩
                go_simp
                with_reducible rfl
              rotate_left
              · simp only [Act.put, List.setIfInBounds_toArray, List.set_cons_zero, List.set_cons_succ, i64_w, i32_w]
                rfl
              refine take_ (i := 3) (N := some 36) (v := ?_) (a' := ?_) #[true, false, false, true, false, false, false, false, false, false, false, false, false] rfl rfl (by kernel_rfl) (fun _ _ _ h => h) (Or.inl ⟨by rfl, ?_⟩) hHeld ?_ ?_
              rotate_left
              · rintro w' ⟨q1, q2⟩
                go_simp
                with_reducible rfl
              rotate_left
              · simp only [Act.put, List.setIfInBounds_toArray, List.set_cons_zero, List.set_cons_succ, i64_w, i32_w]
                rfl
              refine one_ (i := 1) (N := some 34) #[true, true, false, true, false, false, false, false, false, false, false, false, false] rfl rfl (by kernel_rfl) (by decide) (fun K hK => ?_)
              refine value_ (by rfl) rfl (v := .slice (some ⟨w5.heap.size, 0, none⟩) 1 1) (w1 := w5.alloc (.cells #[.string d] 9)) (by go_simp) ?_
              refine hK.out _ _ (HSC.out _ (below_step HBB5.out (below_alloc (Below.refl _ _) _))) (fun hHeld => ?_)
              clear hK K
              refine norm_ (a' := ?_) ?_ ?_
              rotate_left
              · show Act.put _ (some 34) _ = _
                simp only [Act.put, List.setIfInBounds_toArray, List.set_cons_zero, List.set_cons_succ, i64_w, i32_w]
                rfl
              refine one_ (i := 2) (N := some 35) #[true, true, true, true, false, false, false, false, false, false, false, false, false] rfl rfl (by kernel_rfl) (by decide) (fun K hK => ?_)
              refine goes_ Tryz.func53 (by kernel_rfl) rfl #[.slice (some ⟨w5.heap.size, 0, none⟩) 1 1] (by rfl) rfl rfl (by (try simp only [List.map_toArray, List.map_cons, List.map_nil]); first | done | rfl) ?_
              with_reducible refine (HND.out _ HB5.out).mono ?_
              rintro e w6 ⟨rfl, hb6⟩
              have HB6 := Aside0.mk (below_step HB5.out hb6)
              have HBB6 := Aside0.mk (below_step HBB5.out hb6)
              have hs6 := HSC.out _ HBB6.out
              clear hb6 hHeld
              refine ⟨_, rfl, ?_⟩
              refine hK.out _ _ hs6 (fun hHeld => ?_)
              clear hK K
              refine norm_ (a' := ?_) ?_ ?_
              rotate_left
              · show Act.put _ (some 35) _ = _
                simp only [Act.put, List.setIfInBounds_toArray, List.set_cons_zero, List.set_cons_succ, i64_w, i32_w]
                rfl
              refine one_ (i := 4) (N := some 37) #[true, true, true, true, true, false, false, false, false, false, false, false, false] rfl rfl (by kernel_rfl) (by decide) (fun K hK => ?_)
              refine goes_ Tryz.func34 (by kernel_rfl) rfl #[.pointer (some ⟨g, 0, none⟩)] (by rfl) rfl rfl (by (try simp only [List.map_toArray, List.map_cons, List.map_nil]); first | done | rfl) ?_
              with_reducible refine (HFR.out _ HB6.out).mono ?_
              rintro e w7 ⟨rfl, hb7⟩
              have HB7 := Aside0.mk (below_step HB6.out hb7)
              have HBB7 := Aside0.mk (below_step HBB6.out hb7)
              have hs7 := HSC.out _ HBB7.out
              clear hb7 hHeld
              refine ⟨_, rfl, ?_⟩
              refine hK.out _ _ hs7 (fun hHeld => ?_)
              clear hK K
              refine norm_ (a' := ?_) ?_ ?_
              rotate_left
              · show Act.put _ (some 37) _ = _
                simp only [Act.put, List.setIfInBounds_toArray, List.set_cons_zero, List.set_cons_succ, i64_w, i32_w]
                rfl
              refine pure_ (i := 5) (N := some 38) (v := ?_) (a' := ?_) #[true, true, true, true, true, true, false, false, false, false, false, false, false] rfl rfl (by kernel_rfl) (fun _ _ _ h => h) (Or.inl ⟨by rfl, ?_⟩) ?_ ?_
              rotate_left
              · intro w'
                go_simp
                with_reducible rfl
              rotate_left
              · simp only [Act.put, List.setIfInBounds_toArray, List.set_cons_zero, List.set_cons_succ, i64_w, i32_w]
                rfl
              refine pure_ (i := 6) (N := some 39) (v := ?_) (a' := ?_) #[true, true, true, true, true, true, true, false, false, false, false, false, false] rfl rfl (by kernel_rfl) (fun _ _ _ h => h) (Or.inl ⟨by rfl, ?_⟩) ?_ ?_
              rotate_left
              · intro w'
                go_simp
                with_reducible rfl
              rotate_left
              · simp only [Act.put, List.setIfInBounds_toArray, List.set_cons_zero, List.set_cons_succ, i64_w, i32_w]
                rfl
              refine take_ (i := 7) (N := some 40) (v := ?_) (a' := ?_) #[true, true, true, true, true, true, true, true, false, false, false, false, false] rfl rfl (by kernel_rfl) (fun _ _ _ h => h) (Or.inl ⟨by rfl, ?_⟩) hHeld ?_ ?_
              rotate_left
              · rintro w' ⟨q1, q2⟩
                go_simp
                with_reducible rfl
              rotate_left
              · simp only [Act.put, List.setIfInBounds_toArray, List.set_cons_zero, List.set_cons_succ, i64_w, i32_w]
                rfl
              refine one_ (i := 8) (N := some 41) #[true, true, true, true, true, true, true, true, true, false, false, false, false] rfl rfl (by kernel_rfl) (by decide) (fun K hK => ?_)
              refine goes_ Tryz.func15 (by kernel_rfl) rfl #[.pointer (some ⟨g, 0, none⟩), .slice none 0 0] (by rfl) rfl rfl (by (try simp only [List.map_toArray, List.map_cons, List.map_nil]); first | done | rfl) ?_
              with_reducible refine (HNA.out _ HB7.out).mono ?_
              rintro e w8 ⟨A8, c8, rfl, hb8⟩
              have HB8 := Aside0.mk (below_step HB7.out hb8)
              have HBB8 := Aside0.mk (below_step HBB7.out hb8)
              have hs8 := HSC.out _ HBB8.out
              clear hb8 hHeld
              refine ⟨_, rfl, ?_⟩
              refine hK.out _ _ hs8 (fun hHeld => ?_)
              clear hK K
              refine norm_ (a' := ?_) ?_ ?_
              rotate_left
              · show Act.put _ (some 41) _ = _
                simp only [Act.put, List.setIfInBounds_toArray, List.set_cons_zero, List.set_cons_succ, i64_w, i32_w]
                rfl
              refine pure_ (i := 9) (N := some 42) (v := ?_) (a' := ?_) #[true, true, true, true, true, true, true, true, true, true, false, false, false] rfl rfl (by kernel_rfl) (fun _ _ _ h => h) (Or.inl ⟨by rfl, ?_⟩) ?_ ?_
              rotate_left
              · intro w'
                go_simp
                with_reducible rfl
              rotate_left
              · simp only [Act.put, List.setIfInBounds_toArray, List.set_cons_zero, List.set_cons_succ, i64_w, i32_w]
                rfl
              refine pure_ (i := 10) (N := some 43) (v := ?_) (a' := ?_) #[true, true, true, true, true, true, true, true, true, true, true, false, false] rfl rfl (by kernel_rfl) (fun _ _ _ h => h) (Or.inl ⟨by rfl, ?_⟩) ?_ ?_
              rotate_left
              · intro w'
                go_simp
                with_reducible rfl
              rotate_left
              · simp only [Act.put, List.setIfInBounds_toArray, List.set_cons_zero, List.set_cons_succ, i64_w, i32_w]
                rfl
              refine pure_ (i := 11) (N := some 44) (v := ?_) (a' := ?_) #[true, true, true, true, true, true, true, true, true, true, true, true, false] rfl rfl (by kernel_rfl) (fun _ _ _ h => h) (Or.inl ⟨by rfl, ?_⟩) ?_ ?_
              rotate_left
              · intro w'
                go_simp
                with_reducible rfl
              rotate_left
              · simp only [Act.put, List.setIfInBounds_toArray, List.set_cons_zero, List.set_cons_succ, i64_w, i32_w]
                rfl
              refine pure_ (i := 12) (N := some 32) (v := ?_) (a' := ?_) #[true, true, true, true, true, true, true, true, true, true, true, true, true] rfl rfl (by kernel_rfl) (fun _ _ _ h => h) (Or.inl ⟨by rfl, ?_⟩) ?_ ?_
              rotate_left
              · intro w'
                go_simp
                with_reducible rfl
              rotate_left
              · simp only [Act.put, List.setIfInBounds_toArray, List.set_cons_zero, List.set_cons_succ, i64_w, i32_w]
                rfl
              refine done_ (by kernel_rfl) ?_
              go_wp2_with fail
              go_ret
              exact HP.out _ _ (s, 6) (saveC_full HMY.out HOF.out HTW.out HLG.out (HEQ.out.2 (.inr HMN.out))) rfl (H0.out.below HB8.out) (Held.below HB8.out H0.out.lt)
            · have hmi : decide ((fl : Int) ≥ 98) = false := decide_eq_false (by omega)
              have hmi2 : decide (98 ≤ fl) = false := decide_eq_false hmany
              have HMN := Aside0.mk hmany
              go_wp2_with fail
              refine start_ (n := 13) (S := fun w' => w'.cell? ⟨w.heap.size, 0, none⟩ = some (.pointer (some ⟨g, 0, none⟩)) ∧ w'.cell? ⟨ct, 0, none⟩ = some (.string d)) (ds := []) #[false, false, false, false, false, false, false, false, false, false, false, false, false] (by kernel_rfl) rfl rfl (HSC.out _ HBB5.out) (fun hHeld => ?_)
              generalize w4.drew = w5 at HB5 HBB5 hHeld ⊢
              refine take_ (i := 0) (N := some 33) (v := ?_) (a' := ?_) #[true, false, false, false, false, false, false, false, false, false, false, false, false] rfl rfl (by kernel_rfl) (fun _ _ _ h => h) (Or.inl ⟨by rfl, ?_⟩) hHeld ?_ ?_
              rotate_left
              · rintro w' ⟨q1, q2⟩
                go_simp
                with_reducible rfl
              rotate_left
              · simp only [Act.put, List.setIfInBounds_toArray, List.set_cons_zero, List.set_cons_succ, i64_w, i32_w]
                rfl
              refine take_ (i := 3) (N := some 36) (v := ?_) (a' := ?_) #[true, false, false, true, false, false, false, false, false, false, false, false, false] rfl rfl (by kernel_rfl) (fun _ _ _ h => h) (Or.inl ⟨by rfl, ?_⟩) hHeld ?_ ?_
              rotate_left
              · rintro w' ⟨q1, q2⟩
                go_simp
                with_reducible rfl
              rotate_left
              · simp only [Act.put, List.setIfInBounds_toArray, List.set_cons_zero, List.set_cons_succ, i64_w, i32_w]
                rfl
              refine one_ (i := 1) (N := some 34) #[true, true, false, true, false, false, false, false, false, false, false, false, false] rfl rfl (by kernel_rfl) (by decide) (fun K hK => ?_)
              refine value_ (by rfl) rfl (v := .slice (some ⟨w5.heap.size, 0, none⟩) 1 1) (w1 := w5.alloc (.cells #[.string d] 9)) (by go_simp) ?_
              refine hK.out _ _ (HSC.out _ (below_step HBB5.out (below_alloc (Below.refl _ _) _))) (fun hHeld => ?_)
              clear hK K
              refine norm_ (a' := ?_) ?_ ?_
              rotate_left
              · show Act.put _ (some 34) _ = _
                simp only [Act.put, List.setIfInBounds_toArray, List.set_cons_zero, List.set_cons_succ, i64_w, i32_w]
                rfl
              refine one_ (i := 2) (N := some 35) #[true, true, true, true, false, false, false, false, false, false, false, false, false] rfl rfl (by kernel_rfl) (by decide) (fun K hK => ?_)
              refine goes_ Tryz.func53 (by kernel_rfl) rfl #[.slice (some ⟨w5.heap.size, 0, none⟩) 1 1] (by rfl) rfl rfl (by (try simp only [List.map_toArray, List.map_cons, List.map_nil]); first | done | rfl) ?_
              with_reducible refine (HND.out _ HB5.out).mono ?_
              rintro e w6 ⟨rfl, hb6⟩
              have HB6 := Aside0.mk (below_step HB5.out hb6)
              have HBB6 := Aside0.mk (below_step HBB5.out hb6)
              have hs6 := HSC.out _ HBB6.out
              clear hb6 hHeld
              refine ⟨_, rfl, ?_⟩
              refine hK.out _ _ hs6 (fun hHeld => ?_)
              clear hK K
              refine norm_ (a' := ?_) ?_ ?_
              rotate_left
              · show Act.put _ (some 35) _ = _
                simp only [Act.put, List.setIfInBounds_toArray, List.set_cons_zero, List.set_cons_succ, i64_w, i32_w]
                rfl
              refine one_ (i := 4) (N := some 37) #[true, true, true, true, true, false, false, false, false, false, false, false, false] rfl rfl (by kernel_rfl) (by decide) (fun K hK => ?_)
              refine goes_ Tryz.func34 (by kernel_rfl) rfl #[.pointer (some ⟨g, 0, none⟩)] (by rfl) rfl rfl (by (try simp only [List.map_toArray, List.map_cons, List.map_nil]); first | done | rfl) ?_
              with_reducible refine (HFR.out _ HB6.out).mono ?_
              rintro e w7 ⟨rfl, hb7⟩
              have HB7 := Aside0.mk (below_step HB6.out hb7)
              have HBB7 := Aside0.mk (below_step HBB6.out hb7)
              have hs7 := HSC.out _ HBB7.out
              clear hb7 hHeld
              refine ⟨_, rfl, ?_⟩
              refine hK.out _ _ hs7 (fun hHeld => ?_)
              clear hK K
              refine norm_ (a' := ?_) ?_ ?_
              rotate_left
              · show Act.put _ (some 37) _ = _
                simp only [Act.put, List.setIfInBounds_toArray, List.set_cons_zero, List.set_cons_succ, i64_w, i32_w]
                rfl
              refine pure_ (i := 5) (N := some 38) (v := ?_) (a' := ?_) #[true, true, true, true, true, true, false, false, false, false, false, false, false] rfl rfl (by kernel_rfl) (fun _ _ _ h => h) (Or.inl ⟨by rfl, ?_⟩) ?_ ?_
              rotate_left
              · intro w'
                go_simp
                with_reducible rfl
              rotate_left
              · simp only [Act.put, List.setIfInBounds_toArray, List.set_cons_zero, List.set_cons_succ, i64_w, i32_w]
                rfl
              refine pure_ (i := 6) (N := some 39) (v := ?_) (a' := ?_) #[true, true, true, true, true, true, true, false, false, false, false, false, false] rfl rfl (by kernel_rfl) (fun _ _ _ h => h) (Or.inl ⟨by rfl, ?_⟩) ?_ ?_
              rotate_left
              · intro w'
                go_simp
                with_reducible rfl
              rotate_left
              · simp only [Act.put, List.setIfInBounds_toArray, List.set_cons_zero, List.set_cons_succ, i64_w, i32_w]
                rfl
              refine take_ (i := 7) (N := some 40) (v := ?_) (a' := ?_) #[true, true, true, true, true, true, true, true, false, false, false, false, false] rfl rfl (by kernel_rfl) (fun _ _ _ h => h) (Or.inl ⟨by rfl, ?_⟩) hHeld ?_ ?_
              rotate_left
              · rintro w' ⟨q1, q2⟩
                go_simp
                with_reducible rfl
              rotate_left
              · simp only [Act.put, List.setIfInBounds_toArray, List.set_cons_zero, List.set_cons_succ, i64_w, i32_w]
                rfl
              refine one_ (i := 8) (N := some 41) #[true, true, true, true, true, true, true, true, true, false, false, false, false] rfl rfl (by kernel_rfl) (by decide) (fun K hK => ?_)
              refine goes_ Tryz.func15 (by kernel_rfl) rfl #[.pointer (some ⟨g, 0, none⟩), .slice none 0 0] (by rfl) rfl rfl (by (try simp only [List.map_toArray, List.map_cons, List.map_nil]); first | done | rfl) ?_
              with_reducible refine (HNA.out _ HB7.out).mono ?_
              rintro e w8 ⟨A8, c8, rfl, hb8⟩
              have HB8 := Aside0.mk (below_step HB7.out hb8)
              have HBB8 := Aside0.mk (below_step HBB7.out hb8)
              have hs8 := HSC.out _ HBB8.out
              clear hb8 hHeld
              refine ⟨_, rfl, ?_⟩
              refine hK.out _ _ hs8 (fun hHeld => ?_)
              clear hK K
              refine norm_ (a' := ?_) ?_ ?_
              rotate_left
              · show Act.put _ (some 41) _ = _
                simp only [Act.put, List.setIfInBounds_toArray, List.set_cons_zero, List.set_cons_succ, i64_w, i32_w]
                rfl
              refine pure_ (i := 9) (N := some 42) (v := ?_) (a' := ?_) #[true, true, true, true, true, true, true, true, true, true, false, false, false] rfl rfl (by kernel_rfl) (fun _ _ _ h => h) (Or.inl ⟨by rfl, ?_⟩) ?_ ?_
              rotate_left
              · intro w'
                go_simp
                with_reducible rfl
              rotate_left
              · simp only [Act.put, List.setIfInBounds_toArray, List.set_cons_zero, List.set_cons_succ, i64_w, i32_w]
                rfl
              refine pure_ (i := 10) (N := some 43) (v := ?_) (a' := ?_) #[true, true, true, true, true, true, true, true, true, true, true, false, false] rfl rfl (by kernel_rfl) (fun _ _ _ h => h) (Or.inl ⟨by rfl, ?_⟩) ?_ ?_
              rotate_left
              · intro w'
                go_simp
                with_reducible rfl
              rotate_left
              · simp only [Act.put, List.setIfInBounds_toArray, List.set_cons_zero, List.set_cons_succ, i64_w, i32_w]
                rfl
              refine pure_ (i := 11) (N := some 44) (v := ?_) (a' := ?_) #[true, true, true, true, true, true, true, true, true, true, true, true, false] rfl rfl (by kernel_rfl) (fun _ _ _ h => h) (Or.inl ⟨by rfl, ?_⟩) ?_ ?_
              rotate_left
              · intro w'
                go_simp
                with_reducible rfl
              rotate_left
              · simp only [Act.put, List.setIfInBounds_toArray, List.set_cons_zero, List.set_cons_succ, i64_w, i32_w]
                rfl
              refine pure_ (i := 12) (N := some 32) (v := ?_) (a' := ?_) #[true, true, true, true, true, true, true, true, true, true, true, true, true] rfl rfl (by kernel_rfl) (fun _ _ _ h => h) (Or.inl ⟨by rfl, ?_⟩) ?_ ?_
              rotate_left
              · intro w'
                go_simp
                with_reducible rfl
              rotate_left
              · simp only [Act.put, List.setIfInBounds_toArray, List.set_cons_zero, List.set_cons_succ, i64_w, i32_w]
                rfl
              refine done_ (by kernel_rfl) ?_
              have HSV : Aside0 (saveD s (k : Int) d = stepsD (saveL k d) s) := ⟨by rw [saveC_ok HMY.out HOF.out HTW.out HLG.out (fun h => (HEQ.out.1 h).elim (fun h9 => by have := HFU.out; omega) (fun h9 => by have := HMN.out; omega)), Int.toNat_natCast]⟩
              go_wp2_with fail
              have hbF := below_alloc (Below.refl w8.heap.size w8) (.cells #[.func (.func 55) #[] #[ptrC w.heap.size, ptrC cn], .func (.func 57) #[] #[ptrC w.heap.size], .func (.func 58) #[] #[ptrC w.heap.size, ptrC cn, ptrC (w.heap.size + 1), ptrC ct], .func (.func 61) #[] #[ptrC w.heap.size, ptrC cn], .func (.func 62) #[] #[ptrC w.heap.size, ptrC (w.heap.size + 1)], .func (.func 65) #[] #[ptrC w.heap.size], .func (.func 66) #[] #[ptrC w.heap.size], .func (.func 68) #[] #[ptrC w.heap.size, ptrC cn]] 69)
              have hnew := blk_new w8 (.cells #[.func (.func 55) #[] #[ptrC w.heap.size, ptrC cn], .func (.func 57) #[] #[ptrC w.heap.size], .func (.func 58) #[] #[ptrC w.heap.size, ptrC cn, ptrC (w.heap.size + 1), ptrC ct], .func (.func 61) #[] #[ptrC w.heap.size, ptrC cn], .func (.func 62) #[] #[ptrC w.heap.size, ptrC (w.heap.size + 1)], .func (.func 65) #[] #[ptrC w.heap.size], .func (.func 66) #[] #[ptrC w.heap.size], .func (.func 68) #[] #[ptrC w.heap.size, ptrC cn]] 69)
              unfold ptrC at hbF hnew
              have hsz : w8.heap.size < (w8.alloc (.cells #[.func (.func 55) #[] #[.pointer (some ⟨w.heap.size, 0, none⟩), .pointer (some ⟨cn, 0, none⟩)], .func (.func 57) #[] #[.pointer (some ⟨w.heap.size, 0, none⟩)], .func (.func 58) #[] #[.pointer (some ⟨w.heap.size, 0, none⟩), .pointer (some ⟨cn, 0, none⟩), .pointer (some ⟨w.heap.size + 1, 0, none⟩), .pointer (some ⟨ct, 0, none⟩)], .func (.func 61) #[] #[.pointer (some ⟨w.heap.size, 0, none⟩), .pointer (some ⟨cn, 0, none⟩)], .func (.func 62) #[] #[.pointer (some ⟨w.heap.size, 0, none⟩), .pointer (some ⟨w.heap.size + 1, 0, none⟩)], .func (.func 65) #[] #[.pointer (some ⟨w.heap.size, 0, none⟩)], .func (.func 66) #[] #[.pointer (some ⟨w.heap.size, 0, none⟩)], .func (.func 68) #[] #[.pointer (some ⟨w.heap.size, 0, none⟩), .pointer (some ⟨cn, 0, none⟩)]] 69)).heap.size := blk_lt hnew
              generalize w8.alloc (.cells #[.func (.func 55) #[] #[.pointer (some ⟨w.heap.size, 0, none⟩), .pointer (some ⟨cn, 0, none⟩)], .func (.func 57) #[] #[.pointer (some ⟨w.heap.size, 0, none⟩)], .func (.func 58) #[] #[.pointer (some ⟨w.heap.size, 0, none⟩), .pointer (some ⟨cn, 0, none⟩), .pointer (some ⟨w.heap.size + 1, 0, none⟩), .pointer (some ⟨ct, 0, none⟩)], .func (.func 61) #[] #[.pointer (some ⟨w.heap.size, 0, none⟩), .pointer (some ⟨cn, 0, none⟩)], .func (.func 62) #[] #[.pointer (some ⟨w.heap.size, 0, none⟩), .pointer (some ⟨w.heap.size + 1, 0, none⟩)], .func (.func 65) #[] #[.pointer (some ⟨w.heap.size, 0, none⟩)], .func (.func 66) #[] #[.pointer (some ⟨w.heap.size, 0, none⟩)], .func (.func 68) #[] #[.pointer (some ⟨w.heap.size, 0, none⟩), .pointer (some ⟨cn, 0, none⟩)]] 69) = WF at hbF hnew hsz ⊢
              have HBF := Aside0.mk (below_step HB8.out hbF)
              have HCF := HCS.out WF (below_step HBB8.out hbF)
              have hl8 : wb.heap.size ≤ w8.heap.size := HBB8.out.size
              have hlt := HLT.out
              have hcap : Cap WF (fun j => K j ∨ (w.heap.size ≤ j ∧ j < WF.heap.size)) w.heap.size (w.heap.size + 1) ct cn g k d := ⟨.inr ⟨Nat.le_refl _, by omega⟩, .inr ⟨by omega, by omega⟩, .inr ⟨hct, by omega⟩, .inr ⟨hcn, by omega⟩, HCF.1, HCF.2.1, HCF.2.2.1, HCF.2.2.2⟩
              refine (save_all (K := fun j => K j ∨ (w.heap.size ≤ j ∧ j < WF.heap.size)) w8.heap.size (H0.out.more HBF.out) hu hcap HTT.out hk hdz (.inr ⟨HB8.out.size, hsz⟩) (fun i F hF => ?_)).mono ?_
              · rw [blk_cell hnew i]
                have hi : i < 8 := (List.getElem?_eq_some_iff.1 hF).1
                match i, hi, hF with
                | 0, _, hF => cases hF; rfl
                | 1, _, hF => cases hF; rfl
                | 2, _, hF => cases hF; rfl
                | 3, _, hF => cases hF; rfl
                | 4, _, hF => cases hF; rfl
                | 5, _, hF => cases hF; rfl
                | 6, _, hF => cases hF; rfl
                | 7, _, hF => cases hF; rfl
              · rintro e w9 ⟨rfl, hr9, hh9⟩
                have HR9 : Aside0 (RunK w0 w9 g b (stepsD (saveL k d) s).1 K) := ⟨hr9.mono (fun j hj => .inl hj)⟩
                have HH9 : Aside0 (Held K w w9) := ⟨(Held.below HBF.out H0.out.lt).trans (hh9.mono (fun j hj => .inl hj))⟩
                generalize stepsD (saveL k d) s = res at HSV HR9 HH9 ⊢
                clear hr9 hh9 hcap hlt hnew hbF hsz
                go_wp2_with fail
                go_ret
                exact HP.out _ _ res HSV.out rfl HR9.out HH9.out
  · have HMY : Aside0 (mayS n = false) := ⟨by simpa using hmay⟩
    have HNM : Aside0 (nameS n = ⟨#[]⟩) := ⟨by unfold nameS; rw [if_neg hmay]; rfl⟩
    rw [HNM.out] at q4
    clear hmay
    go_wp2_with fail
    go_ret
    exact HP.out _ _ (s, 1) (saveC_arg HMY.out) rfl (H0.out.below HB3.out) (Held.below HB3.out H0.out.lt)
end Go.Proofs.YtcbbdkennmopdaaGreatDoor.PK
/- snap: a Save on a disk whose power stays; what Load tells then. -/
namespace Go.Proofs.YtcbbdkennmopdaaGreatDoor.Crc
theorem beK_few (k : Nat) : ∀ (j n : Nat), n < 256 ^ k → (beK j n).length ≤ k := by
  induction k with
  | zero =>
    intro j n h
    have : n = 0 := by simpa using h
    rw [this, beK_zero]
    exact Nat.le_refl _
  | succ k ih =>
    intro j n h
    cases j with
    | zero => simp [beK]
    | succ j =>
      unfold beK
      split
      · simp
      · have := ih j (n / 256) (by rw [Nat.pow_succ] at h; exact Nat.div_lt_of_lt_mul (by omega))
        simp only [List.length_append, List.length_singleton]
        omega
theorem numL_few (n : Nat) (h : n ≤ 99999999) : (numL n).length ≤ 5 := by
  have := beK_few 4 8 n (by omega)
  unfold numL
  simp only [List.length_cons]
  omega
theorem numL_max : (numL 99999999).length = 5 := by decide
end Go.Proofs.YtcbbdkennmopdaaGreatDoor.Crc
namespace Go.Proofs.YtcbbdkennmopdaaGreatDoor.PK
open Go.RowKit Go.Proofs.YtcbbdkennmopdaaGreatDoorW.PrintWords Go.Proofs.YtcbbdkennmopdaaGreatDoorW.PrintLast Go.Proofs.YtcbbdkennmopdaaGreatDoorW.PrintMore
open Go.Maps
theorem need_most (n : Nat) (d : ByteArray) (h : n ≤ 99999999) : (fileB n d).size + (markB n).size ≤ needN 99999999 d := by
  unfold needN fileB markB Crc.fileL Crc.markL
  simp only [Crc.mkB_size, List.length_append, Crc.frame_length]
  have h1 := Crc.numL_few n h
  have h2 := Crc.numL_max
  omega
theorem need_le (d : ByteArray) : needN 99999999 d ≤ d.size + 63 + 12 * (d.size / 60000) := by
  have h1 := Crc.fileL_length 99999999 d.data.toList
  have h2 := markB_size 99999999
  have h3 : d.data.toList.length = d.size := toList_size d
  unfold needN
  have h4 : (fileB 99999999 d).size = (Crc.fileL 99999999 d.data.toList).length := rfl
  rw [h3] at h1
  omega
theorem file_le (n : Nat) (d : ByteArray) : (fileB n d).size ≤ d.size + 42 + 12 * (d.size / 60000) := by
  have h1 := Crc.fileL_length n d.data.toList
  have h3 : d.data.toList.length = d.size := toList_size d
  have h4 : (fileB n d).size = (Crc.fileL n d.data.toList).length := rfl
  rw [h3] at h1
  omega
/-- A disk whose power is on and stays. -/
structure Calm (s : DS) (room : Int) (fs : List Fl) (u : Int) : Prop where
  off : s.off = false
  armed : s.armed = false
  room : s.room = room
  files : s.files = fs
  uses : s.uses ≤ u
theorem loadD_eq (s : DS) : loadD s = if (readD s sMark).2 = 0 then (match markedB (readD s sMark).1 with | none => (0, sNone, (11 : Int)) | some n => loadF s n) else (0, sNone, (readD s sMark).2) := rfl
theorem loadF_eq (s : DS) (n : Nat) : loadF s n = if (readD s (nameN n)).2 = 0 then (match dataB n (readD s (nameN n)).1 with | none => (0, sNone, (11 : Int)) | some d => ((n : Int), d, (0 : Int))) else (0, sNone, (11 : Int)) := rfl
theorem read_some {s : DS} {x : ByteArray} {f : Fl} (h : s.off = false) (hg : getF s.files x = some f) : readD s x = (f.data, 0) := by
  unfold readD
  rw [if_neg (by rw [h]; decide), hg]
theorem read_none {s : DS} {x : ByteArray} (h : s.off = false) (hg : getF s.files x = none) : readD s x = (⟨#[]⟩, 8) := by
  unfold readD
  rw [if_neg (by rw [h]; decide), hg]
theorem markedB_mark (n : Nat) (h : n ≤ 99999999) : markedB (markB n) = some n := Crc.markedL_markL n h
theorem dataB_file (n : Nat) (d : ByteArray) (h : d.size ≤ 960000) : dataB n (fileB n d) = some d := by
  unfold dataB fileB
  rw [Crc.mkB_list, Crc.dataL_fileL n d.data.toList (by rw [toList_size]; exact h)]
  rfl
/-- A mark that tells a number, and its file: the data are told. -/
theorem load_of {s : DS} (h : s.off = false) {n : Nat} {d : ByteArray} {fm fd : Fl} (hm : getF s.files sMark = some fm) (hmd : fm.data = markB n) (hf : getF s.files (nameN n) = some fd) (hfd : fd.data = fileB n d) (hn : n ≤ 99999999) (hd : d.size ≤ 960000) : loadD s = ((n : Int), d, 0) := by
  rw [loadD_eq, read_some h hm, if_pos rfl, hmd, markedB_mark n hn]
  simp only
  rw [loadF_eq, read_some h hf, if_pos rfl, hfd, dataB_file n d hd]
theorem load_none {s : DS} (h : s.off = false) (hm : getF s.files sMark = none) : loadD s = (0, sNone, 8) := by
  rw [loadD_eq, read_none h hm, if_neg (by decide)]
theorem load_clean {s : DS} {n : Nat} {d : ByteArray} (h : s.off = false) (hf : s.files = cleanF n d) (hn : n ≤ 99999999) (hd : d.size ≤ 960000) : loadD s = ((n : Int), d, 0) := by
  refine load_of h (fm := markF n) (fd := fileF n d) ?_ rfl ?_ rfl hn hd
  · rw [hf, getF_clean, if_pos rfl]
  · rw [hf, getF_clean, if_neg (ne_mark n), if_pos rfl]
theorem saveC_zero {s : DS} {n : Nat} {d : ByteArray} (hn : n ≤ 99999999) (h : s.off = false) (h2 : ¬ ((loadD s).2.2 = 0 ∧ (loadD s).1 = (n : Int))) (h3 : d.size ≤ 960000) (h4 : (needN 99999999 d : Int) ≤ freeD s) (h5 : s.files.length < 98) : saveC s (n : Int) d = 0 := by
  unfold saveC
  rw [if_neg (by unfold mayS; simp; omega), if_neg (by rw [h]; decide), if_neg h2, if_neg (by omega), if_neg (by omega)]
theorem g7_len (n : Nat) (d : ByteArray) (fs : List Fl) : (g7 n d fs).length ≤ fs.length + 3 := by
  have h4 := g4_len n d fs
  have h5 : (g5 n d fs).length ≤ (g4 n d fs).length + 1 := putF_le _ _
  have h6 : (g6 n d fs).length = (g5 n d fs).length := updF_len _ _ _
  have h7 : (g7 n d fs).length ≤ (delF (g6 n d fs) sFresh).length + 1 := putF_le _ _
  have h8 := delF_le (g6 n d fs) sFresh
  omega
theorem snapsF_len (fs : List Fl) : (snapsF fs).length ≤ fs.length := by
  unfold snapsF
  refine Nat.le_trans (List.length_filter_le _ _) ?_
  unfold namesF
  rw [List.length_map]
  exact Nat.le_refl _
theorem saveOps_len (n : Nat) (d : ByteArray) (fs : List Fl) : (saveOps n d fs).length ≤ fs.length + 10 := by
  unfold saveOps
  rw [List.length_append]
  have h1 := delOps_le (nameN n) (snapsF (g7 n d fs))
  have h2 := snapsF_len (g7 n d fs)
  have h3 := g7_len n d fs
  simp only [List.length_cons, List.length_nil]
  omega
theorem save_is {s : DS} {n : Nat} {d : ByteArray} (hn : n ≤ 99999999) (hA : Asc s.files) (hF : FlsOk s.files) (hc : saveC s (n : Int) d = 0) : saveD s (n : Int) d = runsD (saveOps n d s.files) s ∧ s.off = false := by
  have h0 := hc
  unfold saveC at hc
  split at hc
  · omega
  · split at hc
    · omega
    · rename_i h2
      split at hc
      · omega
      · split at hc
        · omega
        · rename_i h4
          split at hc
          · omega
          · rename_i h5
            refine ⟨?_, by simpa using h2⟩
            unfold saveD
            rw [if_pos h0, Int.toNat_natCast]
            have hm := need_most n d hn
            exact save_runs s n d hA hF (by omega) (by omega) (by omega)
theorem save_calm {s : DS} {room : Int} {fs : List Fl} {u : Int} (h : Calm s room fs u) (hA : Asc fs) (hO : OnlyN fs) (hF : FlsOk fs) {n : Nat} {d : ByteArray} (hn : n ≤ 99999999) (hc : saveC s (n : Int) d = 0) : (saveD s (n : Int) d).2 = 0 ∧ Calm (saveD s (n : Int) d).1 room (cleanF n d) (u + (fs.length : Int) + 10) := by
  have hs := save_is hn (by rw [h.files]; exact hA) (by rw [h.files]; exact hF) hc
  rw [hs.1]
  have hk := runs_keeps (saveOps n d s.files) s
  have hl := saveOps_len n d s.files
  rcases runs_cases (saveOps n d s.files) s h.off with ⟨a1, a2, a3⟩ | ⟨_, a2, _⟩
  · refine ⟨a1, a3, hk.2.1.trans h.armed, hk.1.trans h.room, ?_, ?_⟩
    · rw [a2, h.files]
      exact saved_files n d fs hA hO
    · have h1 := hk.2.2
      have h2 := h.uses
      rw [h.files] at hl h1 ⊢
      omega
  · rw [h.armed] at a2; cases a2
theorem clean_only (n : Nat) (d : ByteArray) : OnlyN (cleanF n d) := by
  intro f hf
  rcases List.mem_cons.1 hf with rfl | hf
  · exact .inl rfl
  · rw [List.mem_singleton.1 hf]
    exact .inr (.inr (nameN_front n))
theorem clean_ok (n : Nat) (d : ByteArray) : FlsOk (cleanF n d) := by
  intro f hf
  rcases List.mem_cons.1 hf with rfl | hf
  · rfl
  · rw [List.mem_singleton.1 hf]
    exact nameN_may n
theorem clean_used (n : Nat) (d : ByteArray) : usedF (cleanF n d) = (markB n).size + (fileB n d).size := by
  unfold cleanF
  rw [usedF_cons, usedF_cons, usedF_nil]
  rfl
theorem calm_new (room : Int) : Calm (newD room) room [] 0 := ⟨rfl, rfl, rfl, rfl, Int.le_refl _⟩
end Go.Proofs.YtcbbdkennmopdaaGreatDoor.PK
/- snap: the law's awake. -/
namespace Go.Proofs.YtcbbdkennmopdaaGreatDoor.PK
open Go.RowKit Go.Proofs.YtcbbdkennmopdaaGreatDoorW.PrintWords Go.Proofs.YtcbbdkennmopdaaGreatDoorW.PrintLast Go.Proofs.YtcbbdkennmopdaaGreatDoorW.PrintMore
open Go.Maps
def aAB : ByteArray := ⟨#[97, 98]⟩
def aC : ByteArray := ⟨#[99]⟩
theorem cat_ab : catS [⟨#[97]⟩, ⟨#[98]⟩] = aAB := by decide
theorem free_calm {s : DS} {room : Int} {fs : List Fl} {u : Int} (h : Calm s room fs u) : freeD s = room - (usedF fs : Int) := by
  unfold freeD
  rw [h.room, h.files]
theorem aw_save5 : saveC (newD 1000) 5 aAB = 0 := by
  have h := need_le aAB
  have hz : aAB.size = 2 := rfl
  exact saveC_zero (s := newD 1000) (n := 5) (by decide) rfl (by rw [load_none (s := newD 1000) rfl rfl]; decide) (by decide) (by
    have : freeD (newD 1000) = 1000 := by decide
    rw [this]
    rw [hz] at h
    omega) (by decide)
theorem fls_nil : FlsOk [] := fun f hf => by cases hf
theorem only_nil : OnlyN [] := fun f hf => by cases hf
theorem asc_nil : Asc [] := List.Pairwise.nil
theorem aw1 : (saveD (newD 1000) 5 aAB).2 = 0 ∧ Calm (saveD (newD 1000) 5 aAB).1 1000 (cleanF 5 aAB) 10 := by
  have h := save_calm (calm_new 1000) asc_nil only_nil fls_nil (n := 5) (d := aAB) (by decide) aw_save5
  exact ⟨h.1, h.2⟩
theorem aw_save6 : saveC (saveD (newD 1000) 5 aAB).1 6 aC = 0 := by
  have hc := aw1.2
  have h := need_le aC
  have hz : aC.size = 1 := rfl
  refine saveC_zero (n := 6) (by decide) hc.off (by rw [load_clean hc.off hc.files (by decide) (by decide)]; decide) (by decide) ?_ (by rw [hc.files]; decide)
  rw [free_calm hc, clean_used]
  have h1 := markB_size 5
  have h2 := file_le 5 aAB
  have hz2 : aAB.size = 2 := rfl
  rw [hz2] at h2
  rw [hz] at h
  omega
theorem aw2 : (saveD (saveD (newD 1000) 5 aAB).1 6 aC).2 = 0 ∧ Calm (saveD (saveD (newD 1000) 5 aAB).1 6 aC).1 1000 (cleanF 6 aC) 22 := by
  have h := save_calm aw1.2 (clean_asc _ _) (clean_only _ _) (clean_ok _ _) (n := 6) (d := aC) (by decide) aw_save6
  exact ⟨h.1, h.2⟩
theorem aw_load : loadD (saveD (newD 1000) 5 aAB).1 = (5, aAB, 0) := load_clean aw1.2.off aw1.2.files (by decide) (by decide)
theorem clean_names {s : DS} {n : Nat} {d : ByteArray} (h : s.files = cleanF n d) : namesD s [] = [sMark, nameN n] := by
  rw [namesD_all, h]
  rfl
theorem name6 : nameN 6 = ⟨#[115, 46, 48, 48, 48, 48, 48, 48, 48, 54]⟩ := by decide
theorem aw_names : namesD (saveD (saveD (newD 1000) 5 aAB).1 6 aC).1 [] = [⟨#[109, 97, 114, 107]⟩, ⟨#[115, 46, 48, 48, 48, 48, 48, 48, 48, 54]⟩] := by
  rw [clean_names aw2.2.files, name6]
  rfl
theorem below_drawn {B : Nat} {w w1 w2 : World} (h : Below B w w1) (hd : Drawn0 w1 w2) : Below B w w2 := by
  obtain ⟨n, rfl⟩ := hd
  exact pw_below_drewN h n
theorem nilC (w : World) : Kd.C Kd.string w none 0 [] := Kd.C_of_reads (d := ByteArray.empty) ⟨rfl, Nat.zero_le _, fun h => absurd h (Nat.lt_irrefl _)⟩
set_option maxHeartbeats 2000000 in
set_option maxRecDepth 100000 in
theorem awake_calls (w : World) (hT : SumW.Tab w) : Calls Tryz.prog 16 #[] w fun e w' => e = .returned (.bool true) ∧ Below w.heap.size w w' := by
  have HTT := Aside0.mk hT
  have HN := Aside0.mk (new_S w w 1000 (by decide) (by decide) (Below.refl _ _) (fun _ => False) (fun _ h => h.elim))
  clear hT
  generalize w.heap.size + 1 = g at HN
  generalize hb : w.heap.size = b at HN
  have HBB := Aside0.mk hb
  clear hb
  go_enter Tryz.func16, Tryz.ntmps16
  go_wp2_with fail
  refine HN.out.mono ?_
  rintro e w1 ⟨rfl, hr1, _⟩
  have HR1 := Aside0.mk hr1
  clear hr1 HN
  go_wp2_with fail
  have h1 := aw1
  have h2 := Save_calls (HR1.out.below (below_alloc (Below.refl _ _) (.cells #[.string ⟨#[97]⟩, .string ⟨#[98]⟩] 9))) (by show (0 : Int) < 800000; decide) HTT.out 5 (some ⟨w1.heap.size, 0, none⟩) 2 [⟨#[97]⟩, ⟨#[98]⟩] (strC_blk (blk_new w1 _) (by decide)) (by decide) (by decide) (by decide)
  rw [cat_ab] at h2
  refine h2.mono ?_
  rintro e w2 ⟨rfl, hr2, _⟩
  rw [h1.1]
  have HR2 := Aside0.mk hr2
  have HU2 := Aside0.mk h1.2.uses
  clear h1 h2 hr2 HR1
  go_wp2_with fail
  refine (Load_calls HR2.out (HTT.out.below HR2.out.bel HTT.out.lt)).mono ?_
  rintro e w3 ⟨rfl, hb3⟩
  rw [aw_load]
  have HR3 := Aside0.mk (HR2.out.below hb3)
  clear hb3 HR2
  go_wp2_with fail
  have h1 := aw2
  have h2 := Save_calls (HR3.out.below (below_alloc (Below.refl _ _) (.cells #[.string aC] 9))) (by have := HU2.out; omega) HTT.out 6 (some ⟨w3.heap.size, 0, none⟩) 1 [aC] (strC_blk (blk_new w3 _) (by decide)) (by decide) (by decide) (by decide)
  rw [catS_one] at h2
  refine h2.mono ?_
  rintro e w4 ⟨rfl, hr4, _⟩
  rw [h1.1]
  have HR4 := Aside0.mk hr4
  have hq : (aAB.toList == [97, 98]) = true := by rw [ByteArray.toList_eq]; decide
  clear h1 h2 hr4 HR3
  go_wp2_with fail
  refine (names_S HR4.out none 0 [] (nilC _)).mono ?_
  rintro e w5 ⟨v, rfl, hr5, hb5⟩
  rw [aw_names] at hr5
  obtain ⟨A5, c5, rfl⟩ := Kd.R_slice hr5
  have HC5 := Aside0.mk (Kd.R_reads' hr5)
  have HB5 := Aside0.mk (below_step HR4.out.bel hb5)
  clear hr5 hb5
  go_wp2_with fail
  refine (PR.affluxref05_Same.calls 10 A5 c5 [⟨#[109, 97, 114, 107]⟩, ⟨#[115, 46, 48, 48, 48, 48, 48, 48, 48, 54]⟩] (some ⟨w5.heap.size, 0, none⟩) 2 [⟨#[109, 97, 114, 107]⟩, ⟨#[115, 46, 48, 48, 48, 48, 48, 48, 48, 54]⟩] true _ (Kd.C_alloc HC5.out.2.2 _) HC5.out.2.1 (strC_blk (blk_new w5 _) (by decide)) (by decide) (PA.same_at _ (by decide) 10 (by decide))).mono ?_
  rintro e w6 ⟨rfl, hd6⟩
  have HB6 := Aside0.mk (below_drawn (below_step HB5.out (below_alloc (Below.refl _ _) _)) hd6)
  clear hd6
  go_wp2_with fail
  go_ret
  refine ⟨rfl, ?_⟩
  have h9 := HB6.out
  rw [HBB.out] at h9
  exact h9
end Go.Proofs.YtcbbdkennmopdaaGreatDoor.PK
