/- Texts of this claim, joined: DkPlays. -/
import Derived.Test.YtihlacambdfmfaaDkE2
/- DiskPlays, walked. -/
namespace Go.Proofs.Ytihlacambdfmfaa.PK
open Go.RowKit Go.Proofs.YtihlacambdfmfaaW.PrintWords Go.Proofs.YtihlacambdfmfaaW.PrintLast Go.Proofs.YtihlacambdfmfaaW.PrintMore
open Go.Maps
open Go.Proofs.Ytihlacambdfmfaa.PR
set_option maxHeartbeats 20000000 in
set_option maxRecDepth 100000 in
theorem DiskPlays_calls (room : Int) (A : Option Addr) (cA : Nat) (l : List Act_) (w : World) (hA : Kd.C k47 w A l.length l) (hcA : l.length ≤ cA) (hwf : ∀ x ∈ l, x.f4 ≤ 9223372036854775807) :
    Calls Try.prog 6 #[.int .i64 room, .slice A l.length cA] w fun e w' => e = .returned (.bool true) ∧ Below w.heap.size w w' := by
  obtain ⟨gr, ⟨K, hK⟩, hgr⟩ := great_at l
  have HK := Aside0.mk (hK K (Nat.le_refl _))
  clear hK
  have HA := Aside0.mk hA
  have HWF := Aside0.mk hwf
  have HCA := Aside0.mk hcA
  have HGR := Aside0.mk hgr
  have hmx := Kd.C_max hA
  clear hA hwf hcA hgr
  go_enter Try.func6, Try.ntmps6
  go_wp2_with fail
  refine (affluxlaw06_great.calls K A cA l gr w HA.out HCA.out HK.out).mono ?_
  rintro e w1 ⟨rfl, ⟨n1, hw1⟩⟩
  have HB1 : Aside0 (Below w.heap.size w w1) := ⟨by rw [hw1]; exact pw_below_drewN (Below.refl _ _) n1⟩
  clear hw1
  cases gr with
  | true =>
    go_wp2_with fail
    refine (awake_calls w1).mono ?_
    rintro e w2 ⟨rfl, hb2⟩
    have HB2 := Aside0.mk (below_step HB1.out hb2)
    clear hb2
    go_wp2
    go_ret
    exact ⟨rfl, HB2.out⟩
  | false =>
    have HSM : Aside0 (l.length ≤ 50 ∧ ∀ j (hj : j < l.length), Small l[j]) := ⟨HGR.out rfl⟩
    have hl50 : l.length ≤ 50 := HSM.out.1
    clear HGR
    go_wp2_with fail
    refine (awake_calls w1).mono ?_
    rintro e w2 ⟨rfl, hb2⟩
    have HB2 := Aside0.mk (below_step HB1.out hb2)
    clear hb2 HB1
    by_cases hr0 : room < 0
    · have HNN := Aside0.mk (New_none room w2 (.inl hr0))
      go_wp2_with fail
      refine HNN.out.mono ?_
      rintro e w3 ⟨rfl, rfl⟩
      go_wp2
      go_ret
      exact ⟨rfl, HB2.out⟩
    · by_cases hr1 : 16777216 < room
      · have HNN := Aside0.mk (New_none room w2 (.inr hr1))
        go_wp2_with fail
        refine HNN.out.mono ?_
        rintro e w3 ⟨rfl, rfl⟩
        go_wp2
        go_ret
        exact ⟨rfl, HB2.out⟩
      · have HNR := Aside0.mk (new_run w w2 room (by omega) (by omega) HB2.out)
        go_wp2_with fail
        refine HNR.out.mono ?_
        rintro e w3 ⟨rfl, hr3, -⟩
        have HR3 := Aside0.mk hr3
        clear hr3 HNR
        generalize w2.heap.size + 1 = g at HR3 ⊢
        obtain ⟨b, hb⟩ : ∃ b, b = w2.heap.size := ⟨_, rfl⟩
        rw [← hb] at HR3
        clear hb
        have HM3 := Aside0.mk (Md.new w3 w.heap.size room HR3.out.bel.size)
        have HR4 := Aside0.mk (HR3.out.below (below_alloc (Below.refl w3.heap.size w3) (.cells #[.int .i64 room, .slice none 0 0, .bool false, .bool false, .int .i64 0, .int .i64 0] 44)))
        go_wp2_with fail
        generalize w3.alloc (.cells #[.int .i64 room, .slice none 0 0, .bool false, .bool false, .int .i64 0, .int .i64 0] 44) = W4 at HM3 HR4 ⊢
        generalize w3.heap.size = m at HM3 ⊢
        clear HR3
        go_loopg [7, 8, 9, 10, 11, 12, 13] (l.length + 1) (fun kq v7 _ _ _ _ _ _ w' => ∃ (i : Nat) (d : DS) (A1 : Option Addr) (c1 : Nat), v7 = .int .i64 i ∧ Aside0 (i + kq = l.length + 1) ∧ i ≤ l.length ∧ Aside0 (Run w w' g b d) ∧ Aside0 (Md w' w.heap.size m A1 c1 d) ∧ Aside0 (d.uses ≤ i))
        case atStart => exact ⟨0, _, none, 0, rfl, ⟨by omega⟩, Nat.zero_le _, HR4, HM3, ⟨by show (0 : Int) ≤ _; omega⟩⟩
        case round =>
          clear HR4 HM3
          obtain ⟨i, d, A1, c1, rfl, HQ, hi, HR, HM, HU⟩ := hrel
          cases gk with
          | zero => exact absurd HQ.out (by omega)
          | succ k1 =>
            by_cases hil : i < l.length
            · obtain ⟨ad, A3, c3, A5, c5, eA, hx0, hx1, hx2, hx3, hx4, hx5, hc3, hC3, hc5, hC5⟩ := at_T47 HA.out (i : Int) (by omega) (by omega)
              cases eA
              rw [rdA_at l i hil] at hx0 hx1 hx2 hx3 hx4 hx5 hc3 hC3 hc5 hC5
              simp only [Int.toNat_natCast] at hx0 hx1 hx2 hx3 hx4 hx5
              have hsm := HSM.out.2 i hil
              have hwf := HWF.out l[i] (List.getElem_mem hil)
              generalize l[i] = x at hx0 hx1 hx2 hx3 hx4 hx5 hc3 hC3 hc5 hC5 hsm hwf
              obtain ⟨kind, name, tn, data, n, keep⟩ := x
              have hss := Small.sum hsm
              unfold Small at hsm
              dsimp only at hx0 hx1 hx2 hx3 hx4 hx5 hc3 hC3 hc5 hC5 hsm hwf hss
              have HS := Aside0.mk (And.intro hsm.1 (And.intro hss.2 (And.intro hsm.2.1 hwf)))
              have HC3W := Aside0.mk hC3
              have HC5W := Aside0.mk hC5
              have HCC3 := Aside0.mk hc3
              replace hx0 := below_cell0 HR.out.bel hx0
              replace hx1 := below_cell0 HR.out.bel hx1
              replace hx2 := below_cell0 HR.out.bel hx2
              replace hx3 := below_cell0 HR.out.bel hx3
              replace hx4 := below_cell0 HR.out.bel hx4
              replace hx5 := below_cell0 HR.out.bel hx5
              clear hsm hss hwf hC3 hC5 hc3 hc5
              go_upto_region 11 with fail
              have HNF : Aside0 (¬ foot g b d wr.heap.size) := ⟨fun hk => absurd (HR.out.dk.lt _ hk) (Nat.lt_irrefl _)⟩
              have HNM : Aside0 (¬ ft m A1 c1 d wr.heap.size) := ⟨fun hk => absurd (HM.out.lt _ hk) (Nat.lt_irrefl _)⟩
              have HBAA := Aside0.mk (below_alloc (Below.refl wr.heap.size wr) (.cells #[.int .i64 kind, .string name, .string tn, .slice A3 data.length c3, .int .i64 n, .slice A5 keep.length c5] 47))
              have HXB : Aside0 (∀ i, (wr.alloc (.cells #[.int .i64 kind, .string name, .string tn, .slice A3 data.length c3, .int .i64 n, .slice A5 keep.length c5] 47)).cell? ⟨wr.heap.size, i, none⟩ = (#[.int .i64 kind, .string name, .string tn, .slice A3 data.length c3, .int .i64 n, .slice A5 keep.length c5] : Array Value)[i]?) := ⟨fun i => blk_cell (blk_new wr _) i⟩
              have HRA := Aside0.mk (HR.out.below HBAA.out)
              have HMA := Aside0.mk (HM.out.same fun k hk => HBAA.out.block k (HM.out.lt k hk))
              clear hx0 hx1 hx2 hx3 hx4 hx5
              generalize wr.alloc (.cells #[.int .i64 kind, .string name, .string tn, .slice A3 data.length c3, .int .i64 n, .slice A5 keep.length c5] 47) = WA at HXB HRA HMA ⊢
              generalize wr.heap.size = ba at HNF HNM HXB ⊢
              clear HBAA HR HM
              have HA3 : Aside0 (∀ ad, A3 = some ad → 0 < data.length → ad.block < w.heap.size) := ⟨fun ad e hn => strC_lt (by rw [← e]; exact HC3W.out) hn⟩
              have HA5 : Aside0 (∀ ad, A5 = some ad → 0 < keep.length → ad.block < w.heap.size) := ⟨fun ad e hn => intC_lt (by rw [← e]; exact HC5W.out) hn⟩
              have hui : d.uses < 1000000 := by have := HU.out; omega
              have HUI := Aside0.mk hui
              have HDO := Aside0.mk (do_run HRA.out hui kind name tn A3 c3 data n A5 c5 keep (Kd.C_below HC3W.out HRA.out.bel) HCC3.out HS.out.1 HS.out.2.1 (fun ad e hn hf => by have h1 := HA3.out ad e hn; have h2 := HRA.out.ge _ hf; omega) (Kd.C_below HC5W.out HRA.out.bel) (fun ad e hn hf => by have h1 := HA5.out ad e hn; have h2 := HRA.out.ge _ hf; omega) HS.out.2.2.1 HS.out.2.2.2)
              clear hui
              have hc0 := HXB.out 0
              have hc1 := HXB.out 1
              have hc2 := HXB.out 2
              have hc3 := HXB.out 3
              have hc4 := HXB.out 4
              have hc5 := HXB.out 5
              simp only [List.getElem?_toArray, List.getElem?_cons_succ, List.getElem?_cons_zero] at hc0 hc1 hc2 hc3 hc4 hc5
              go_wp2_with fail
              refine HDO.out.mono ?_
              rintro e w8 ⟨s, code, d', rfl, hdo, hr8, ht8⟩
              have HM8 := Aside0.mk (Md.turn HMA.out HRA.out.dk ht8)
              have HR8 := Aside0.mk hr8
              have HDI := Aside0.mk hdo
              replace hc0 := kp_cell ht8.kp HNF.out hc0
              replace hc1 := kp_cell ht8.kp HNF.out hc1
              replace hc2 := kp_cell ht8.kp HNF.out hc2
              replace hc3 := kp_cell ht8.kp HNF.out hc3
              replace hc4 := kp_cell ht8.kp HNF.out hc4
              replace hc5 := kp_cell ht8.kp HNF.out hc5
              have HGD := Aside0.mk (And.intro HRA.out.good HRA.out.asc)
              have HSZ8 : Aside0 (w.heap.size ≤ w8.heap.size) := ⟨hr8.bel.size⟩
              have HC3K := Aside0.mk (Kd.C_below HC3W.out hr8.bel)
              have HC5K := Aside0.mk (Kd.C_below HC5W.out hr8.bel)
              have HF3 : Aside0 (∀ ad, A3 = some ad → 0 < data.length → ¬ ft m A1 c1 d ad.block) := ⟨fun ad e hn hf => by have h1 := HA3.out ad e hn; have h2 := HM8.out.base_le _ hf; omega⟩
              have HF5 : Aside0 (∀ ad, A5 = some ad → 0 < keep.length → ¬ ft m A1 c1 d ad.block) := ⟨fun ad e hn hf => by have h1 := HA5.out ad e hn; have h2 := HM8.out.base_le _ hf; omega⟩
              clear hdo hr8 ht8 HDO HRA HMA HXB HA3 HA5
              go_wp2_with fail
              refine (find_calls w.heap.size m A1 c1 d name w8 HM8.out).mono ?_
              rintro e w9 ⟨fi, rfl, hfi, rfl⟩
              have HFI := Aside0.mk hfi
              clear hfi
              go_upto_block 2 with fail
              go_cut [11, 12] (fun s11 s12 wx => s11 = .int .i64 code ∧ s12 = .string s ∧ Aside0 (∃ A2 c2, Run w wx g b d' ∧ Md wx w.heap.size m A2 c2 d'))
              case first =>
                have hdi := HDI.out
                unfold DoIs at hdi
                rcases hdi with h0 | h1 | h2 | h3 | h4 | h5 | h6 | h7 | h8
                · obtain ⟨rfl, rfl, hcd, hi⟩ := h0
                  by_cases hz : (useD d).2 = true
                  · obtain ⟨blk, hbk⟩ := app_is hi
                    have HEQ : Aside0 (appD d name data blk = (d', code)) := ⟨by rw [hbk, hcd]⟩
                    have HDC := Aside0.mk (does0_calls w.heap.size m A1 c1 d name tn A3 c3 data n A5 keep.length c5 blk w8 HM8.out HGD.out.1 HGD.out.2 HUI.out HSZ8.out HC3K.out HCC3.out HS.out.1 HS.out.2.1 HF3.out hz)
                    clear hcd hz hi hbk
                    go_wp2_with fail
                    refine HDC.out.mono ?_
                    rintro e w9 ⟨A2, c2, rfl, ht9⟩
                    rw [HEQ.out] at ht9 ⊢
                    have HT9 := Aside0.mk ht9
                    clear ht9
                    go_wp2_with fail
                    go_meet
                    exact ⟨rfl, rfl, ⟨A2, c2, HR8.out.mturn HM8.out rfl HT9.out, HT9.out.md⟩⟩
                  · have hz2 : (useD d).2 = false := by simpa using hz
                    have hof := off0 hz2 hi
                    have HEQ : Aside0 (code = 7 ∧ d' = (useD d).1) := ⟨by rw [hcd]; exact hof⟩
                    have HDC := Aside0.mk (does_off w.heap.size m A1 c1 d 0 name tn A3 data.length c3 n A5 keep.length c5 w8 HM8.out HGD.out.1.fair.uses0 HUI.out hz2)
                    clear hcd hz hz2 hi hof
                    go_wp2_with fail
                    refine HDC.out.mono ?_
                    rintro e w9 ⟨rfl, ht9⟩
                    rw [← HEQ.out.2] at ht9
                    have HT9 := Aside0.mk ht9
                    clear ht9
                    go_wp2_with fail
                    go_meet
                    exact ⟨by rw [HEQ.out.1], rfl, ⟨A1, c1, HR8.out.mturn HM8.out rfl HT9.out, HT9.out.md⟩⟩
                · obtain ⟨rfl, rfl, hcd⟩ := h1
                  by_cases hz : (useD d).2 = true
                  · have HEQ : Aside0 (syncD d (name :: data) = (d', code)) := ⟨hcd.symm⟩
                    have HDC := Aside0.mk (does1_calls w.heap.size m A1 c1 d name tn A3 c3 data n A5 keep.length c5 w8 HM8.out HGD.out.1 HGD.out.2 HUI.out HSZ8.out HC3K.out HCC3.out HS.out.1 HS.out.2.1 HF3.out hz)
                    clear hcd hz
                    go_wp2_with fail
                    refine HDC.out.mono ?_
                    rintro e w9 ⟨A2, c2, rfl, ht9⟩
                    rw [HEQ.out] at ht9 ⊢
                    have HT9 := Aside0.mk ht9
                    clear ht9
                    go_wp2_with fail
                    go_meet
                    exact ⟨rfl, rfl, ⟨A2, c2, HR8.out.mturn HM8.out rfl HT9.out, HT9.out.md⟩⟩
                  · have hz2 : (useD d).2 = false := by simpa using hz
                    rw [off1 hz2] at hcd
                    have HEQ : Aside0 (code = 7 ∧ d' = (useD d).1) := ⟨by injection hcd with e1 e2; exact ⟨e2, e1⟩⟩
                    have HDC := Aside0.mk (does_off w.heap.size m A1 c1 d 1 name tn A3 data.length c3 n A5 keep.length c5 w8 HM8.out HGD.out.1.fair.uses0 HUI.out hz2)
                    clear hcd hz hz2
                    go_wp2_with fail
                    refine HDC.out.mono ?_
                    rintro e w9 ⟨rfl, ht9⟩
                    rw [← HEQ.out.2] at ht9
                    have HT9 := Aside0.mk ht9
                    clear ht9
                    go_wp2_with fail
                    go_meet
                    exact ⟨by rw [HEQ.out.1], rfl, ⟨A1, c1, HR8.out.mturn HM8.out rfl HT9.out, HT9.out.md⟩⟩
                · obtain ⟨rfl, rfl, hcd⟩ := h2
                  by_cases hz : (useD d).2 = true
                  · have HEQ : Aside0 (renameD d name tn = (d', code)) := ⟨hcd.symm⟩
                    have HDC := Aside0.mk (does2_calls w.heap.size m A1 c1 d name tn A3 c3 data n A5 keep.length c5 w8 HM8.out HGD.out.1 HGD.out.2 HUI.out HSZ8.out HC3K.out HCC3.out HS.out.1 HS.out.2.1 HF3.out hz)
                    clear hcd hz
                    go_wp2_with fail
                    refine HDC.out.mono ?_
                    rintro e w9 ⟨A2, c2, rfl, ht9⟩
                    rw [HEQ.out] at ht9 ⊢
                    have HT9 := Aside0.mk ht9
                    clear ht9
                    go_wp2_with fail
                    go_meet
                    exact ⟨rfl, rfl, ⟨A2, c2, HR8.out.mturn HM8.out rfl HT9.out, HT9.out.md⟩⟩
                  · have hz2 : (useD d).2 = false := by simpa using hz
                    rw [off2 hz2] at hcd
                    have HEQ : Aside0 (code = 7 ∧ d' = (useD d).1) := ⟨by injection hcd with e1 e2; exact ⟨e2, e1⟩⟩
                    have HDC := Aside0.mk (does_off w.heap.size m A1 c1 d 2 name tn A3 data.length c3 n A5 keep.length c5 w8 HM8.out HGD.out.1.fair.uses0 HUI.out hz2)
                    clear hcd hz hz2
                    go_wp2_with fail
                    refine HDC.out.mono ?_
                    rintro e w9 ⟨rfl, ht9⟩
                    rw [← HEQ.out.2] at ht9
                    have HT9 := Aside0.mk ht9
                    clear ht9
                    go_wp2_with fail
                    go_meet
                    exact ⟨by rw [HEQ.out.1], rfl, ⟨A1, c1, HR8.out.mturn HM8.out rfl HT9.out, HT9.out.md⟩⟩
                · obtain ⟨rfl, rfl, hcd⟩ := h3
                  by_cases hz : (useD d).2 = true
                  · have HEQ : Aside0 (deleteD d name = (d', code)) := ⟨hcd.symm⟩
                    have HDC := Aside0.mk (does3_calls w.heap.size m A1 c1 d name tn A3 c3 data n A5 keep.length c5 w8 HM8.out HGD.out.1 HGD.out.2 HUI.out HSZ8.out HC3K.out HCC3.out HS.out.1 HS.out.2.1 HF3.out hz)
                    clear hcd hz
                    go_wp2_with fail
                    refine HDC.out.mono ?_
                    rintro e w9 ⟨A2, c2, rfl, ht9⟩
                    rw [HEQ.out] at ht9 ⊢
                    have HT9 := Aside0.mk ht9
                    clear ht9
                    go_wp2_with fail
                    go_meet
                    exact ⟨rfl, rfl, ⟨A2, c2, HR8.out.mturn HM8.out rfl HT9.out, HT9.out.md⟩⟩
                  · have hz2 : (useD d).2 = false := by simpa using hz
                    rw [off3 hz2] at hcd
                    have HEQ : Aside0 (code = 7 ∧ d' = (useD d).1) := ⟨by injection hcd with e1 e2; exact ⟨e2, e1⟩⟩
                    have HDC := Aside0.mk (does_off w.heap.size m A1 c1 d 3 name tn A3 data.length c3 n A5 keep.length c5 w8 HM8.out HGD.out.1.fair.uses0 HUI.out hz2)
                    clear hcd hz hz2
                    go_wp2_with fail
                    refine HDC.out.mono ?_
                    rintro e w9 ⟨rfl, ht9⟩
                    rw [← HEQ.out.2] at ht9
                    have HT9 := Aside0.mk ht9
                    clear ht9
                    go_wp2_with fail
                    go_meet
                    exact ⟨by rw [HEQ.out.1], rfl, ⟨A1, c1, HR8.out.mturn HM8.out rfl HT9.out, HT9.out.md⟩⟩
                · obtain ⟨rfl, rfl, hcd⟩ := h4
                  by_cases hz : (useD d).2 = true
                  · have HEQ : Aside0 (cutD d name n = (d', code)) := ⟨hcd.symm⟩
                    have HDC := Aside0.mk (does4_calls w.heap.size m A1 c1 d name tn A3 c3 data n A5 keep.length c5 w8 HM8.out HGD.out.1 HGD.out.2 HUI.out HSZ8.out HC3K.out HCC3.out HS.out.1 HS.out.2.1 HF3.out hz)
                    clear hcd hz
                    go_wp2_with fail
                    refine HDC.out.mono ?_
                    rintro e w9 ⟨A2, c2, rfl, ht9⟩
                    rw [HEQ.out] at ht9 ⊢
                    have HT9 := Aside0.mk ht9
                    clear ht9
                    go_wp2_with fail
                    go_meet
                    exact ⟨rfl, rfl, ⟨A2, c2, HR8.out.mturn HM8.out rfl HT9.out, HT9.out.md⟩⟩
                  · have hz2 : (useD d).2 = false := by simpa using hz
                    rw [off4 hz2] at hcd
                    have HEQ : Aside0 (code = 7 ∧ d' = (useD d).1) := ⟨by injection hcd with e1 e2; exact ⟨e2, e1⟩⟩
                    have HDC := Aside0.mk (does_off w.heap.size m A1 c1 d 4 name tn A3 data.length c3 n A5 keep.length c5 w8 HM8.out HGD.out.1.fair.uses0 HUI.out hz2)
                    clear hcd hz hz2
                    go_wp2_with fail
                    refine HDC.out.mono ?_
                    rintro e w9 ⟨rfl, ht9⟩
                    rw [← HEQ.out.2] at ht9
                    have HT9 := Aside0.mk ht9
                    clear ht9
                    go_wp2_with fail
                    go_meet
                    exact ⟨by rw [HEQ.out.1], rfl, ⟨A1, c1, HR8.out.mturn HM8.out rfl HT9.out, HT9.out.md⟩⟩
                · obtain ⟨rfl, hcd, hdd⟩ := h5
                  have HDD := Aside0.mk hdd
                  clear hdd
                  have hm2 : w8.cell? ⟨m, 2, none⟩ = some (.bool d.off) := HM8.out.cell 2
                  have HMM : Aside0 (Md w8 w.heap.size m A1 c1 d') := ⟨by rw [HDD.out]; exact HM8.out⟩
                  unfold readD at hcd
                  cases hof : d.off with
                  | true =>
                    rw [hof] at hm2
                    rw [hof, if_pos rfl] at hcd
                    injection hcd with e1 e2
                    subst e1 e2
                    clear hof
                    go_wp2_with fail
                    go_meet
                    exact ⟨rfl, rfl, ⟨A1, c1, HR8.out, HMM.out⟩⟩
                  | false =>
                    rw [hof] at hm2
                    rw [hof, if_neg (by decide)] at hcd
                    clear hof
                    rcases HFI.out with ⟨rfl, hgn⟩ | ⟨k, hk, rfl, hgs⟩
                    · rw [hgn] at hcd
                      injection hcd with e1 e2
                      subst e1 e2
                      clear hgn
                      go_wp2_with fail
                      go_meet
                      exact ⟨rfl, rfl, ⟨A1, c1, HR8.out, HMM.out⟩⟩
                    · rw [hgs] at hcd
                      injection hcd with e1 e2
                      obtain ⟨g5, e5, hy0, hy1, hy2, hyf, hyl⟩ := HM8.out.file k hk
                      subst e5
                      rw [← e1] at hy1
                      have hm1 : w8.cell? ⟨m, 1, none⟩ = some (.slice (some ⟨g5, 0, none⟩) d.files.length c1) := HM8.out.cell 1
                      have hki : (k : Int) < (d.files.length : Int) := by omega
                      have hk0 : ¬ (k : Int) < 0 := by omega
                      subst e2
                      clear e1 hgs hyf
                      go_wp2_with fail
                      go_meet
                      exact ⟨rfl, rfl, ⟨some ⟨g5, 0, none⟩, c1, HR8.out, HMM.out⟩⟩
                · obtain ⟨rfl, rfl, hcd, hdd⟩ := h6
                  subst hcd
                  have HDD := Aside0.mk hdd
                  clear hdd
                  have hm3 : w8.cell? ⟨m, 3, none⟩ = some (.bool d.armed) := HM8.out.cell 3
                  have hm4 : w8.cell? ⟨m, 4, none⟩ = some (.int .i64 d.left) := HM8.out.cell 4
                  have f3 := HM8.out.frozen 3
                  have f4 := HM8.out.frozen 4
                  have hml : m < w8.heap.size := blk_lt HM8.out.blk
                  have t1 := MTurn.set (d1 := { d with armed := true }) HM8.out 3 (.bool true) rfl rfl
                  have HT9 := Aside0.mk (t1.trans (MTurn.set (d1 := armD d n) t1.md 4 (.int .i64 (max n 0)) rfl rfl))
                  clear t1
                  have hba : ba ≠ m := fun e => HNM.out (by rw [e]; exact .inl rfl)
                  go_wp2_with fail
                  go_meet
                  exact ⟨rfl, rfl, ⟨A1, c1, HR8.out.mturn HM8.out rfl HT9.out, by rw [HDD.out]; exact HT9.out.md⟩⟩
                · obtain ⟨rfl, rfl, hcd, hdd⟩ := h7
                  subst hcd
                  have HDD := Aside0.mk hdd
                  clear hdd
                  have HDC := Aside0.mk (mcrash_calls w.heap.size m A1 c1 d A5 c5 keep w8 HM8.out HGD.out.1 HC5K.out HF5.out)
                  go_wp2_with fail
                  refine HDC.out.mono ?_
                  rintro e w9 ⟨rfl, ht9⟩
                  have HT9 := Aside0.mk ht9
                  clear ht9
                  go_wp2_with fail
                  go_meet
                  exact ⟨rfl, rfl, ⟨A1, c1, HR8.out.mturn HM8.out rfl HT9.out, by rw [HDD.out]; exact HT9.out.md⟩⟩
                · obtain ⟨⟨k0, k1', k2, k3, k4, k5, k6, k7⟩, rfl, hcd, hi⟩ := h8
                  have HCD := Aside0.mk hcd
                  have HPI := Aside0.mk hi
                  have HPC : Aside0 ((mayN name = false → code = 1) ∧ (mayN name = true → code = if 1048576 < ((catS data).size : Int) ∨ (fi < 0 ∧ 100 ≤ d.files.length) then 5 else if freeD d < ((catS data).size : Int) - ((oldF d.files name).1.size : Int) then 6 else 0)) := ⟨by
                    rw [hcd]
                    unfold putC
                    exact ⟨fun h9 => by rw [if_neg (by rw [h9]; decide)], fun h9 => by rw [if_pos h9]; exact fits_find HFI.out⟩⟩
                  obtain ⟨KJ, hKJ⟩ := join_at data (by have := HS.out.1; omega) (by have := HS.out.2.1; omega)
                  have HJ := Aside0.mk (hKJ KJ (Nat.le_refl _))
                  have b5 : (kind == 5) = false := beq_eq_false_iff_ne.2 k5
                  have b6 : (kind == 6) = false := beq_eq_false_iff_ne.2 k6
                  have b7 : (kind == 7) = false := beq_eq_false_iff_ne.2 k7
                  clear hcd hi hKJ
                  by_cases hneg : kind < 0
                  · have d1 : decide (0 ≤ kind) = false := decide_eq_false (by omega)
                    clear hneg k0 k1' k2 k3 k4 k5 k6 k7
                    go_wp2_with fail
                    refine (affluxlaw06_may.calls name (mayN name) w8 (may_at name)).mono ?_
                    rintro e w9 ⟨rfl, ⟨q9, hw9⟩⟩
                    have HB9 : Aside0 (Below w8.heap.size w8 w9) := ⟨by rw [hw9]; exact pw_below_drewN (Below.refl _ _) q9⟩
                    clear hw9
                    have HR9 := Aside0.mk (HR8.out.below HB9.out)
                    have HM9 := Aside0.mk (HM8.out.same fun k hk => HB9.out.block k (HM8.out.lt k hk))
                    replace hc1 := below_cell0 HB9.out hc1
                    replace hc3 := below_cell0 HB9.out hc3
                    cases hmy : mayN name with
                    | false =>
                      have HE : Aside0 (code = 1 ∧ d' = d) := ⟨by have e1 := HPC.out.1 hmy; exact ⟨e1, HPI.out.1 (by rw [← HCD.out, e1]; decide)⟩⟩
                      clear hmy
                      go_wp2_with fail
                      go_meet
                      exact ⟨by rw [HE.out.1], rfl, ⟨A1, c1, HR9.out, by rw [HE.out.2]; exact HM9.out⟩⟩
                    | true =>
                      have HFC := Aside0.mk (HPC.out.2 hmy)
                      clear hmy
                      have HCK := Aside0.mk (Kd.C_below HC3K.out HB9.out)
                      go_wp2_with fail
                      refine (affluxlaw06_join.calls KJ A3 c3 data (catS data) w9 HCK.out HCC3.out HJ.out).mono ?_
                      rintro e w10 ⟨rfl, ⟨q10, hw10⟩⟩
                      have HB10 : Aside0 (Below w9.heap.size w9 w10) := ⟨by rw [hw10]; exact pw_below_drewN (Below.refl _ _) q10⟩
                      clear hw10
                      replace hc1 := below_cell0 HB10.out hc1
                      replace hc3 := below_cell0 HB10.out hc3
                      have HR10 := Aside0.mk (HR9.out.below HB10.out)
                      have HM10 := Aside0.mk (HM9.out.same fun k hk => HB10.out.block k (HM9.out.lt k hk))
                      have HCL := Aside0.mk (Kd.C_below HCK.out HB10.out)
                      have HSZC : Aside0 ((catS data).size ≤ 1000000) := ⟨by rw [catS_size]; exact HS.out.2.1⟩
                      have HLY := Aside0.mk (lays_run w.heap.size m A1 c1 d fi ((catS data).size : Int) ((oldF d.files name).1.size : Int) d.files.length code w10 HM10.out HGD.out.1 (by omega) (by have := HSZC.out; omega) ⟨by omega, by have := (oldF_fair HGD.out.1 name).1; omega⟩ rfl (find_has HFI.out) HFC.out)
                      go_wp2_with fail
                      refine HLY.out.mono ?_
                      rintro e w11 ⟨rfl, ⟨q11, hw11⟩⟩
                      have HB11 : Aside0 (Below w10.heap.size w10 w11) := ⟨by rw [hw11]; exact pw_below_drewN (Below.refl _ _) q11⟩
                      clear hw11
                      replace hc1 := below_cell0 HB11.out hc1
                      replace hc3 := below_cell0 HB11.out hc3
                      have HR11 := Aside0.mk (HR10.out.below HB11.out)
                      have HM11 := Aside0.mk (HM10.out.same fun k hk => HB11.out.block k (HM10.out.lt k hk))
                      have HCM := Aside0.mk (Kd.C_below HCL.out HB11.out)
                      by_cases hz0 : code = 0
                      · have hzb : (code == 0) = true := by rw [hz0]; rfl
                        obtain ⟨blk, hblk⟩ := HPI.out.2 (by rw [← HCD.out]; exact hz0)
                        have HBK := Aside0.mk hblk
                        have HZ0 := Aside0.mk hz0
                        clear hblk hz0
                        go_wp2_with fail
                        refine start_ (n := 12) (S := fun w' => w'.cell? ⟨ba, 1, none⟩ = some (.string name) ∧ w'.cell? ⟨ba, 3, none⟩ = some (.slice A3 data.length c3)) (ds := []) #[false, false, false, false, false, false, false, false, false, false, false, false] (by kernel_rfl) rfl rfl ⟨hc1, hc3⟩ (fun hHeld => ?_)
                        have HB12 : Aside0 (Below w11.heap.size w11 w11.drew) := ⟨below_drew (Below.refl _ _)⟩
                        clear hc1 hc3
                        generalize w11.drew = w12 at HB12 hHeld ⊢
                        refine pure_ (i := 0) (N := some 63) (v := ?_) (a' := ?_) #[true, false, false, false, false, false, false, false, false, false, false, false] rfl rfl (by kernel_rfl) (fun _ _ _ h => h) (Or.inl ⟨by rfl, ?_⟩) ?_ ?_
                        rotate_left
                        · intro w'
                          go_simp
                          with_reducible rfl
                        rotate_left
                        · simp only [Act.put, List.setIfInBounds_toArray, List.set_cons_zero, List.set_cons_succ, i64_w, i32_w]
                          rfl
                        refine pure_ (i := 1) (N := some 64) (v := ?_) (a' := ?_) #[true, true, false, false, false, false, false, false, false, false, false, false] rfl rfl (by kernel_rfl) (fun _ _ _ h => h) (Or.inl ⟨by rfl, ?_⟩) ?_ ?_
                        rotate_left
                        · intro w'
                          go_simp
                          with_reducible rfl
                        rotate_left
                        · simp only [Act.put, List.setIfInBounds_toArray, List.set_cons_zero, List.set_cons_succ, i64_w, i32_w]
                          rfl
                        refine take_ (i := 2) (N := some 65) (v := ?_) (a' := ?_) #[true, true, true, false, false, false, false, false, false, false, false, false] rfl rfl (by kernel_rfl) (fun _ _ _ h => h) (Or.inl ⟨by rfl, ?_⟩) hHeld ?_ ?_
                        rotate_left
                        · rintro w' ⟨hHA, hHB⟩
                          go_simp
                          with_reducible rfl
                        rotate_left
                        · simp only [Act.put, List.setIfInBounds_toArray, List.set_cons_zero, List.set_cons_succ, i64_w, i32_w]
                          rfl
                        refine pure_ (i := 3) (N := some 66) (v := ?_) (a' := ?_) #[true, true, true, true, false, false, false, false, false, false, false, false] rfl rfl (by kernel_rfl) (fun _ _ _ h => h) (Or.inl ⟨by rfl, ?_⟩) ?_ ?_
                        rotate_left
                        · intro w'
                          go_simp
                          with_reducible rfl
                        rotate_left
                        · simp only [Act.put, List.setIfInBounds_toArray, List.set_cons_zero, List.set_cons_succ, i64_w, i32_w]
                          rfl
                        refine take_ (i := 4) (N := some 67) (v := ?_) (a' := ?_) #[true, true, true, true, true, false, false, false, false, false, false, false] rfl rfl (by kernel_rfl) (fun _ _ _ h => h) (Or.inl ⟨by rfl, ?_⟩) hHeld ?_ ?_
                        rotate_left
                        · rintro w' ⟨hHA, hHB⟩
                          go_simp
                          with_reducible rfl
                        rotate_left
                        · simp only [Act.put, List.setIfInBounds_toArray, List.set_cons_zero, List.set_cons_succ, i64_w, i32_w]
                          rfl
                        refine pure_ (i := 6) (N := some 69) (v := ?_) (a' := ?_) #[true, true, true, true, true, false, true, false, false, false, false, false] rfl rfl (by kernel_rfl) (fun _ _ _ h => h) (Or.inl ⟨by rfl, ?_⟩) ?_ ?_
                        rotate_left
                        · intro w'
                          go_simp
                          with_reducible rfl
                        rotate_left
                        · simp only [Act.put, List.setIfInBounds_toArray, List.set_cons_zero, List.set_cons_succ, i64_w, i32_w]
                          rfl
                        refine take_ (i := 7) (N := some 70) (v := ?_) (a' := ?_) #[true, true, true, true, true, false, true, true, false, false, false, false] rfl rfl (by kernel_rfl) (fun _ _ _ h => h) (Or.inl ⟨by rfl, ?_⟩) hHeld ?_ ?_
                        rotate_left
                        · rintro w' ⟨hHA, hHB⟩
                          go_simp
                          with_reducible rfl
                        rotate_left
                        · simp only [Act.put, List.setIfInBounds_toArray, List.set_cons_zero, List.set_cons_succ, i64_w, i32_w]
                          rfl
                        refine one_ (i := 5) (N := some 68) #[true, true, true, true, true, true, true, true, false, false, false, false] rfl rfl (by kernel_rfl) (by decide) (fun K hK => ?_)
                        refine goes_ Try.func25 (by kernel_rfl) rfl #[.slice A3 data.length c3] (by rfl) rfl rfl (by (try simp only [List.map_toArray, List.map_cons, List.map_nil]); first | done | rfl) ?_
                        refine (affluxlaw06_join.calls KJ A3 c3 data (catS data) w12 (Kd.C_below HCM.out HB12.out) HCC3.out HJ.out).mono ?_
                        rintro e w13 ⟨rfl, ⟨q13, hw13⟩⟩
                        have hb13 : Below w12.heap.size w12 w13 := by rw [hw13]; exact pw_below_drewN (Below.refl _ _) q13
                        have HB13 := Aside0.mk (below_step HB12.out hb13)
                        have hh13 := And.intro (below_cell0 hb13 hHeld.1) (below_cell0 hb13 hHeld.2)
                        clear hb13 hw13 hHeld
                        refine ⟨_, rfl, ?_⟩
                        refine hK.out _ _ hh13 (fun hHeld => ?_)
                        clear hK K
                        refine norm_ (a' := ?_) ?_ ?_
                        rotate_left
                        · show Act.put _ (some 68) _ = _
                          simp only [Act.put, List.setIfInBounds_toArray, List.set_cons_zero, List.set_cons_succ, i64_w, i32_w]
                          rfl
                        refine one_ (i := 8) (N := some 71) #[true, true, true, true, true, true, true, true, true, false, false, false] rfl rfl (by kernel_rfl) (by decide) (fun K hK => ?_)
                        refine goes_ Try.func25 (by kernel_rfl) rfl #[.slice A3 data.length c3] (by rfl) rfl rfl (by (try simp only [List.map_toArray, List.map_cons, List.map_nil]); first | done | rfl) ?_
                        refine (affluxlaw06_join.calls KJ A3 c3 data (catS data) w13 (Kd.C_below HCM.out HB13.out) HCC3.out HJ.out).mono ?_
                        rintro e w14 ⟨rfl, ⟨q14, hw14⟩⟩
                        have hb14 : Below w13.heap.size w13 w14 := by rw [hw14]; exact pw_below_drewN (Below.refl _ _) q14
                        have HB14 := Aside0.mk (below_step HB13.out hb14)
                        have hh14 := And.intro (below_cell0 hb14 hHeld.1) (below_cell0 hb14 hHeld.2)
                        clear hb14 hw14 hHeld
                        refine ⟨_, rfl, ?_⟩
                        refine hK.out _ _ hh14 (fun hHeld => ?_)
                        clear hK K
                        refine norm_ (a' := ?_) ?_ ?_
                        rotate_left
                        · show Act.put _ (some 71) _ = _
                          simp only [Act.put, List.setIfInBounds_toArray, List.set_cons_zero, List.set_cons_succ, i64_w, i32_w]
                          rfl
                        refine pure_ (i := 9) (N := some 72) (v := ?_) (a' := ?_) #[true, true, true, true, true, true, true, true, true, true, false, false] rfl rfl (by kernel_rfl) (fun _ _ _ h => h) (Or.inl ⟨by rfl, ?_⟩) ?_ ?_
                        rotate_left
                        · intro w'
                          go_simp
                          with_reducible rfl
                        rotate_left
                        · simp only [Act.put, List.setIfInBounds_toArray, List.set_cons_zero, List.set_cons_succ, i64_w, i32_w]
                          rfl
                        refine pure_ (i := 10) (N := some 73) (v := ?_) (a' := ?_) #[true, true, true, true, true, true, true, true, true, true, true, false] rfl rfl (by kernel_rfl) (fun _ _ _ h => h) (Or.inl ⟨by rfl, ?_⟩) ?_ ?_
                        rotate_left
                        · intro w'
                          go_simp
                          with_reducible rfl
                        rotate_left
                        · simp only [Act.put, List.setIfInBounds_toArray, List.set_cons_zero, List.set_cons_succ, i64_w, i32_w]
                          rfl
                        refine one_ (i := 11) (N := some 74) #[true, true, true, true, true, true, true, true, true, true, true, true] rfl rfl (by kernel_rfl) (by decide) (fun K hK => ?_)
                        refine goes_ Try.func26 (by kernel_rfl) rfl #[.pointer (some ⟨m, 0, none⟩), .agg #[.string name, .string (catS data), .int .i64 ((catS data).size : Int)]] (by rfl) rfl rfl (by (try simp only [List.map_toArray, List.map_cons, List.map_nil]); first | done | rfl) ?_
                        refine (put_calls w.heap.size m A1 c1 d ⟨name, blk, catS data, ((catS data).size : Int)⟩ w14 (HM11.out.same fun k hk => HB14.out.block k (HM11.out.lt k hk)) (Nat.le_trans HR11.out.bel.size HB14.out.size) HGD.out.1.count).mono ?_
                        rintro e w15 ⟨rfl, A2, c2, ht⟩
                        have HT15 := Aside0.mk ((MTurn.below HM11.out HB14.out).trans ht)
                        have hh15 := And.intro (ht.cell HNM.out hHeld.1) (ht.cell HNM.out hHeld.2)
                        clear ht hHeld
                        refine ⟨_, rfl, ?_⟩
                        refine hK.out _ _ hh15 (fun hHeld => ?_)
                        clear hK K
                        refine norm_ (a' := ?_) ?_ ?_
                        rotate_left
                        · show Act.put _ (some 74) _ = _
                          simp only [Act.put, List.setIfInBounds_toArray, List.set_cons_zero, List.set_cons_succ, i64_w, i32_w]
                          rfl
                        refine done_ (by kernel_rfl) ?_
                        go_wp2_with fail
                        go_meet
                        exact ⟨by rw [HZ0.out], rfl, ⟨A2, c2, HR11.out.mturn HM11.out rfl HT15.out, by rw [HBK.out]; exact HT15.out.md⟩⟩
                      · have hzb : (code == 0) = false := beq_eq_false_iff_ne.2 hz0
                        have HE : Aside0 (d' = d) := ⟨HPI.out.1 (by rw [← HCD.out]; exact hz0)⟩
                        clear hz0
                        go_wp2_with fail
                        go_meet
                        exact ⟨rfl, rfl, ⟨A1, c1, HR11.out, by rw [HE.out]; exact HM11.out⟩⟩
                  · have d1 : decide (0 ≤ kind) = true := decide_eq_true (by omega)
                    have d2 : decide (kind ≤ 4) = false := decide_eq_false (by omega)
                    clear hneg k0 k1' k2 k3 k4 k5 k6 k7
                    go_wp2_with fail
                    refine (affluxlaw06_may.calls name (mayN name) w8 (may_at name)).mono ?_
                    rintro e w9 ⟨rfl, ⟨q9, hw9⟩⟩
                    have HB9 : Aside0 (Below w8.heap.size w8 w9) := ⟨by rw [hw9]; exact pw_below_drewN (Below.refl _ _) q9⟩
                    clear hw9
                    have HR9 := Aside0.mk (HR8.out.below HB9.out)
                    have HM9 := Aside0.mk (HM8.out.same fun k hk => HB9.out.block k (HM8.out.lt k hk))
                    replace hc1 := below_cell0 HB9.out hc1
                    replace hc3 := below_cell0 HB9.out hc3
                    cases hmy : mayN name with
                    | false =>
                      have HE : Aside0 (code = 1 ∧ d' = d) := ⟨by have e1 := HPC.out.1 hmy; exact ⟨e1, HPI.out.1 (by rw [← HCD.out, e1]; decide)⟩⟩
                      clear hmy
                      go_wp2_with fail
                      go_meet
                      exact ⟨by rw [HE.out.1], rfl, ⟨A1, c1, HR9.out, by rw [HE.out.2]; exact HM9.out⟩⟩
                    | true =>
                      have HFC := Aside0.mk (HPC.out.2 hmy)
                      clear hmy
                      have HCK := Aside0.mk (Kd.C_below HC3K.out HB9.out)
                      go_wp2_with fail
                      refine (affluxlaw06_join.calls KJ A3 c3 data (catS data) w9 HCK.out HCC3.out HJ.out).mono ?_
                      rintro e w10 ⟨rfl, ⟨q10, hw10⟩⟩
                      have HB10 : Aside0 (Below w9.heap.size w9 w10) := ⟨by rw [hw10]; exact pw_below_drewN (Below.refl _ _) q10⟩
                      clear hw10
                      replace hc1 := below_cell0 HB10.out hc1
                      replace hc3 := below_cell0 HB10.out hc3
                      have HR10 := Aside0.mk (HR9.out.below HB10.out)
                      have HM10 := Aside0.mk (HM9.out.same fun k hk => HB10.out.block k (HM9.out.lt k hk))
                      have HCL := Aside0.mk (Kd.C_below HCK.out HB10.out)
                      have HSZC : Aside0 ((catS data).size ≤ 1000000) := ⟨by rw [catS_size]; exact HS.out.2.1⟩
                      have HLY := Aside0.mk (lays_run w.heap.size m A1 c1 d fi ((catS data).size : Int) ((oldF d.files name).1.size : Int) d.files.length code w10 HM10.out HGD.out.1 (by omega) (by have := HSZC.out; omega) ⟨by omega, by have := (oldF_fair HGD.out.1 name).1; omega⟩ rfl (find_has HFI.out) HFC.out)
                      go_wp2_with fail
                      refine HLY.out.mono ?_
                      rintro e w11 ⟨rfl, ⟨q11, hw11⟩⟩
                      have HB11 : Aside0 (Below w10.heap.size w10 w11) := ⟨by rw [hw11]; exact pw_below_drewN (Below.refl _ _) q11⟩
                      clear hw11
                      replace hc1 := below_cell0 HB11.out hc1
                      replace hc3 := below_cell0 HB11.out hc3
                      have HR11 := Aside0.mk (HR10.out.below HB11.out)
                      have HM11 := Aside0.mk (HM10.out.same fun k hk => HB11.out.block k (HM10.out.lt k hk))
                      have HCM := Aside0.mk (Kd.C_below HCL.out HB11.out)
                      by_cases hz0 : code = 0
                      · have hzb : (code == 0) = true := by rw [hz0]; rfl
                        obtain ⟨blk, hblk⟩ := HPI.out.2 (by rw [← HCD.out]; exact hz0)
                        have HBK := Aside0.mk hblk
                        have HZ0 := Aside0.mk hz0
                        clear hblk hz0
                        go_wp2_with fail
                        refine start_ (n := 12) (S := fun w' => w'.cell? ⟨ba, 1, none⟩ = some (.string name) ∧ w'.cell? ⟨ba, 3, none⟩ = some (.slice A3 data.length c3)) (ds := []) #[false, false, false, false, false, false, false, false, false, false, false, false] (by kernel_rfl) rfl rfl ⟨hc1, hc3⟩ (fun hHeld => ?_)
                        have HB12 : Aside0 (Below w11.heap.size w11 w11.drew) := ⟨below_drew (Below.refl _ _)⟩
                        clear hc1 hc3
                        generalize w11.drew = w12 at HB12 hHeld ⊢
                        refine pure_ (i := 0) (N := some 63) (v := ?_) (a' := ?_) #[true, false, false, false, false, false, false, false, false, false, false, false] rfl rfl (by kernel_rfl) (fun _ _ _ h => h) (Or.inl ⟨by rfl, ?_⟩) ?_ ?_
                        rotate_left
                        · intro w'
                          go_simp
                          with_reducible rfl
                        rotate_left
                        · simp only [Act.put, List.setIfInBounds_toArray, List.set_cons_zero, List.set_cons_succ, i64_w, i32_w]
                          rfl
                        refine pure_ (i := 1) (N := some 64) (v := ?_) (a' := ?_) #[true, true, false, false, false, false, false, false, false, false, false, false] rfl rfl (by kernel_rfl) (fun _ _ _ h => h) (Or.inl ⟨by rfl, ?_⟩) ?_ ?_
                        rotate_left
                        · intro w'
                          go_simp
                          with_reducible rfl
                        rotate_left
                        · simp only [Act.put, List.setIfInBounds_toArray, List.set_cons_zero, List.set_cons_succ, i64_w, i32_w]
                          rfl
                        refine take_ (i := 2) (N := some 65) (v := ?_) (a' := ?_) #[true, true, true, false, false, false, false, false, false, false, false, false] rfl rfl (by kernel_rfl) (fun _ _ _ h => h) (Or.inl ⟨by rfl, ?_⟩) hHeld ?_ ?_
                        rotate_left
                        · rintro w' ⟨hHA, hHB⟩
                          go_simp
                          with_reducible rfl
                        rotate_left
                        · simp only [Act.put, List.setIfInBounds_toArray, List.set_cons_zero, List.set_cons_succ, i64_w, i32_w]
                          rfl
                        refine pure_ (i := 3) (N := some 66) (v := ?_) (a' := ?_) #[true, true, true, true, false, false, false, false, false, false, false, false] rfl rfl (by kernel_rfl) (fun _ _ _ h => h) (Or.inl ⟨by rfl, ?_⟩) ?_ ?_
                        rotate_left
                        · intro w'
                          go_simp
                          with_reducible rfl
                        rotate_left
                        · simp only [Act.put, List.setIfInBounds_toArray, List.set_cons_zero, List.set_cons_succ, i64_w, i32_w]
                          rfl
                        refine take_ (i := 4) (N := some 67) (v := ?_) (a' := ?_) #[true, true, true, true, true, false, false, false, false, false, false, false] rfl rfl (by kernel_rfl) (fun _ _ _ h => h) (Or.inl ⟨by rfl, ?_⟩) hHeld ?_ ?_
                        rotate_left
                        · rintro w' ⟨hHA, hHB⟩
                          go_simp
                          with_reducible rfl
                        rotate_left
                        · simp only [Act.put, List.setIfInBounds_toArray, List.set_cons_zero, List.set_cons_succ, i64_w, i32_w]
                          rfl
                        refine pure_ (i := 6) (N := some 69) (v := ?_) (a' := ?_) #[true, true, true, true, true, false, true, false, false, false, false, false] rfl rfl (by kernel_rfl) (fun _ _ _ h => h) (Or.inl ⟨by rfl, ?_⟩) ?_ ?_
                        rotate_left
                        · intro w'
                          go_simp
                          with_reducible rfl
                        rotate_left
                        · simp only [Act.put, List.setIfInBounds_toArray, List.set_cons_zero, List.set_cons_succ, i64_w, i32_w]
                          rfl
                        refine take_ (i := 7) (N := some 70) (v := ?_) (a' := ?_) #[true, true, true, true, true, false, true, true, false, false, false, false] rfl rfl (by kernel_rfl) (fun _ _ _ h => h) (Or.inl ⟨by rfl, ?_⟩) hHeld ?_ ?_
                        rotate_left
                        · rintro w' ⟨hHA, hHB⟩
                          go_simp
                          with_reducible rfl
                        rotate_left
                        · simp only [Act.put, List.setIfInBounds_toArray, List.set_cons_zero, List.set_cons_succ, i64_w, i32_w]
                          rfl
                        refine one_ (i := 5) (N := some 68) #[true, true, true, true, true, true, true, true, false, false, false, false] rfl rfl (by kernel_rfl) (by decide) (fun K hK => ?_)
                        refine goes_ Try.func25 (by kernel_rfl) rfl #[.slice A3 data.length c3] (by rfl) rfl rfl (by (try simp only [List.map_toArray, List.map_cons, List.map_nil]); first | done | rfl) ?_
                        refine (affluxlaw06_join.calls KJ A3 c3 data (catS data) w12 (Kd.C_below HCM.out HB12.out) HCC3.out HJ.out).mono ?_
                        rintro e w13 ⟨rfl, ⟨q13, hw13⟩⟩
                        have hb13 : Below w12.heap.size w12 w13 := by rw [hw13]; exact pw_below_drewN (Below.refl _ _) q13
                        have HB13 := Aside0.mk (below_step HB12.out hb13)
                        have hh13 := And.intro (below_cell0 hb13 hHeld.1) (below_cell0 hb13 hHeld.2)
                        clear hb13 hw13 hHeld
                        refine ⟨_, rfl, ?_⟩
                        refine hK.out _ _ hh13 (fun hHeld => ?_)
                        clear hK K
                        refine norm_ (a' := ?_) ?_ ?_
                        rotate_left
                        · show Act.put _ (some 68) _ = _
                          simp only [Act.put, List.setIfInBounds_toArray, List.set_cons_zero, List.set_cons_succ, i64_w, i32_w]
                          rfl
                        refine one_ (i := 8) (N := some 71) #[true, true, true, true, true, true, true, true, true, false, false, false] rfl rfl (by kernel_rfl) (by decide) (fun K hK => ?_)
                        refine goes_ Try.func25 (by kernel_rfl) rfl #[.slice A3 data.length c3] (by rfl) rfl rfl (by (try simp only [List.map_toArray, List.map_cons, List.map_nil]); first | done | rfl) ?_
                        refine (affluxlaw06_join.calls KJ A3 c3 data (catS data) w13 (Kd.C_below HCM.out HB13.out) HCC3.out HJ.out).mono ?_
                        rintro e w14 ⟨rfl, ⟨q14, hw14⟩⟩
                        have hb14 : Below w13.heap.size w13 w14 := by rw [hw14]; exact pw_below_drewN (Below.refl _ _) q14
                        have HB14 := Aside0.mk (below_step HB13.out hb14)
                        have hh14 := And.intro (below_cell0 hb14 hHeld.1) (below_cell0 hb14 hHeld.2)
                        clear hb14 hw14 hHeld
                        refine ⟨_, rfl, ?_⟩
                        refine hK.out _ _ hh14 (fun hHeld => ?_)
                        clear hK K
                        refine norm_ (a' := ?_) ?_ ?_
                        rotate_left
                        · show Act.put _ (some 71) _ = _
                          simp only [Act.put, List.setIfInBounds_toArray, List.set_cons_zero, List.set_cons_succ, i64_w, i32_w]
                          rfl
                        refine pure_ (i := 9) (N := some 72) (v := ?_) (a' := ?_) #[true, true, true, true, true, true, true, true, true, true, false, false] rfl rfl (by kernel_rfl) (fun _ _ _ h => h) (Or.inl ⟨by rfl, ?_⟩) ?_ ?_
                        rotate_left
                        · intro w'
                          go_simp
                          with_reducible rfl
                        rotate_left
                        · simp only [Act.put, List.setIfInBounds_toArray, List.set_cons_zero, List.set_cons_succ, i64_w, i32_w]
                          rfl
                        refine pure_ (i := 10) (N := some 73) (v := ?_) (a' := ?_) #[true, true, true, true, true, true, true, true, true, true, true, false] rfl rfl (by kernel_rfl) (fun _ _ _ h => h) (Or.inl ⟨by rfl, ?_⟩) ?_ ?_
                        rotate_left
                        · intro w'
                          go_simp
                          with_reducible rfl
                        rotate_left
                        · simp only [Act.put, List.setIfInBounds_toArray, List.set_cons_zero, List.set_cons_succ, i64_w, i32_w]
                          rfl
                        refine one_ (i := 11) (N := some 74) #[true, true, true, true, true, true, true, true, true, true, true, true] rfl rfl (by kernel_rfl) (by decide) (fun K hK => ?_)
                        refine goes_ Try.func26 (by kernel_rfl) rfl #[.pointer (some ⟨m, 0, none⟩), .agg #[.string name, .string (catS data), .int .i64 ((catS data).size : Int)]] (by rfl) rfl rfl (by (try simp only [List.map_toArray, List.map_cons, List.map_nil]); first | done | rfl) ?_
                        refine (put_calls w.heap.size m A1 c1 d ⟨name, blk, catS data, ((catS data).size : Int)⟩ w14 (HM11.out.same fun k hk => HB14.out.block k (HM11.out.lt k hk)) (Nat.le_trans HR11.out.bel.size HB14.out.size) HGD.out.1.count).mono ?_
                        rintro e w15 ⟨rfl, A2, c2, ht⟩
                        have HT15 := Aside0.mk ((MTurn.below HM11.out HB14.out).trans ht)
                        have hh15 := And.intro (ht.cell HNM.out hHeld.1) (ht.cell HNM.out hHeld.2)
                        clear ht hHeld
                        refine ⟨_, rfl, ?_⟩
                        refine hK.out _ _ hh15 (fun hHeld => ?_)
                        clear hK K
                        refine norm_ (a' := ?_) ?_ ?_
                        rotate_left
                        · show Act.put _ (some 74) _ = _
                          simp only [Act.put, List.setIfInBounds_toArray, List.set_cons_zero, List.set_cons_succ, i64_w, i32_w]
                          rfl
                        refine done_ (by kernel_rfl) ?_
                        go_wp2_with fail
                        go_meet
                        exact ⟨by rw [HZ0.out], rfl, ⟨A2, c2, HR11.out.mturn HM11.out rfl HT15.out, by rw [HBK.out]; exact HT15.out.md⟩⟩
                      · have hzb : (code == 0) = false := beq_eq_false_iff_ne.2 hz0
                        have HE : Aside0 (d' = d) := ⟨HPI.out.1 (by rw [← HCD.out]; exact hz0)⟩
                        clear hz0
                        go_wp2_with fail
                        go_meet
                        exact ⟨rfl, rfl, ⟨A1, c1, HR11.out, by rw [HE.out]; exact HM11.out⟩⟩
              case rest =>
                obtain ⟨rfl, rfl, hrest⟩ := hcut
                obtain ⟨A2, c2, hr9, hm9⟩ := hrest.out
                clear hrest
                have HUN : Aside0 (d'.uses ≤ (i + 1 : Nat)) := ⟨by have h1 := doIs_uses HDI.out; have h2 := HU.out; omega⟩
                have HSC := Aside0.mk (same_calls g b w.heap.size m A2 c2 d' wc hr9.dk hm9 hr9.good hr9.asc)
                have HR9 := Aside0.mk hr9
                have HM9 := Aside0.mk hm9
                clear hr9 hm9
                go_wp2_with fail
                refine HSC.out.mono ?_
                rintro e w10 ⟨rfl, hb10⟩
                have HR10 := Aside0.mk (HR9.out.below hb10)
                have HM10 := Aside0.mk (HM9.out.same fun k hk => hb10.block k (HM9.out.lt k hk))
                clear hb10
                go_wp2
                go_roundg k1
                case measure => have := HQ.out; omega
                case rel => exact ⟨i + 1, d', A2, c2, by go_num, ⟨by have := HQ.out; omega⟩, by omega, HR10, HM10, HUN⟩
            · go_wp2
              go_ret
              exact ⟨rfl, HR.out.bel⟩
end Go.Proofs.Ytihlacambdfmfaa.PK
