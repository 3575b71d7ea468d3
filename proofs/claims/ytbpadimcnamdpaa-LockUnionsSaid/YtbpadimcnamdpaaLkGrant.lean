/- lock: Grant. -/
import Derived.Test.YtbpadimcnamdpaaLkAsk
namespace Go.Proofs.Ytbpadimcnamdpaa.PK
open Go.RowKit Go.Proofs.YtbpadimcnamdpaaW.PrintWords Go.Proofs.YtbpadimcnamdpaaW.PrintLast Go.Proofs.YtbpadimcnamdpaaW.PrintMore
theorem TabAt.now {w : World} {base g : Nat} {S : Nat → Prop} {l : List Ask} (h : TabAt w base S g l) : TabAt w base (fun k => S k ∧ k < w.heap.size) g l := by
  obtain ⟨A, c, h1, h2⟩ := h.row
  exact ⟨⟨h.own, blk_lt h1⟩, h.ge, A, c, h1, Kd.R_mono (Kd.R_bound h2) (fun k hk => ⟨⟨hk.1.1, hk.2.2.1⟩, hk.1.2⟩)⟩
theorem TabAt.mono {w : World} {base g : Nat} {S S' : Nat → Prop} {l : List Ask} (h : TabAt w base S g l) (hs : ∀ k, S k → S' k) : TabAt w base S' g l := by
  obtain ⟨A, c, h1, h2⟩ := h.row
  exact ⟨hs _ h.own, h.ge, A, c, h1, Kd.R_mono h2 (fun k hk => ⟨hs _ hk.1, hk.2⟩)⟩
theorem Kp.cell {S : Nat → Prop} {w w' : World} (h : Kp S w w') {a : Addr} {v : Value} (hc : w.cell? a = some v) (hn : ¬ S a.block) : w'.cell? a = some v := by
  have hlt : a.block < w.heap.size := by
    unfold World.cell? at hc
    by_cases hh : a.block < w.heap.size
    · exact hh
    · rw [Array.getElem?_eq_none (by simpa using hh)] at hc; simp at hc
  rw [World.cell?_of_block (w := w) (h.block a.block hlt hn)]
  exact hc
def heldAt (l : List Ask) (i : Int) : Bool := (rd_T61 l i).f2
def hold (l : List Ask) (i : Nat) : List Ask := l.set i ⟨(rd_T61 l (i : Int)).f0, (rd_T61 l (i : Int)).f1, true⟩
/-- What Grant answers, and the asks behind it. -/
def grantL : List Ask → List Int → Int × List Ask
  | l, [] => (0, l)
  | l, id :: r => if findI l id < 0 ∨ heldAt l (findI l id) = true then (8, l) else if readyT l (findI l id).toNat = false then (18, l) else grantL (hold l (findI l id).toNat) r
theorem findI_lt (l : List Ask) (id : Int) : findI l id < 0 ∨ ∃ i : Nat, findI l id = (i : Int) ∧ i < l.length := by
  unfold findI
  cases h : l.findIdx? (fun x => x.f1 == id) with
  | none => left; decide
  | some i =>
    right
    rw [List.findIdx?_eq_some_iff_getElem] at h
    exact ⟨i, rfl, h.1⟩
theorem hold_length (l : List Ask) (i : Nat) : (hold l i).length = l.length := by simp [hold]
set_option maxHeartbeats 2000000 in
set_option maxRecDepth 100000 in
theorem grant_calls (base g : Nat) (S : Nat → Prop) (l : List Ask) (A : Option Addr) (c : Nat) (ids : List Int) (w : World) (hT : TabAt w base S g l) (hI : Kd.C (Kd.int .i64) w A ids.length ids) (hfar : ∀ ad, A = some ad → ¬ S ad.block) (hsm : l.length ≤ 1073741824) :
    Calls Try.prog 20 #[.pointer (some ⟨g, 0, none⟩), .slice A ids.length c] w fun e w' => e = .returned (.int .i64 (grantL l ids).1) ∧ TabAt w' base (fun k => S k ∨ w.heap.size ≤ k) g (grantL l ids).2 ∧ Kp (fun k => S k ∨ w.heap.size ≤ k) w w' := by
  have HT := Aside0.mk (hT.mono (S' := fun k => S k ∨ w.heap.size ≤ k) (fun _ h => .inl h))
  have HI := Aside0.mk hI
  have HF := Aside0.mk hfar
  have hmax := Kd.C_max hI
  clear hT hI hfar
  obtain ⟨r1, r2, hr⟩ : ∃ r1 r2, (r1, r2) = grantL l ids := ⟨_, _, rfl⟩
  rw [← hr]
  dsimp only
  have HR := Aside0.mk hr
  clear hr
  go_enter Try.func20, Try.ntmps20
  go_wp2
  go_loopg [12] (ids.length + 1) (fun kq v12 w' => ∃ (k : Nat) (l1 : List Ask), v12 = .int .i64 k ∧ Aside0 (k + kq = ids.length + 1) ∧ k ≤ ids.length ∧ l1.length ≤ 1073741824 ∧ Aside0 ((r1, r2) = grantL l1 (ids.drop k)) ∧ Aside0 (TabAt w' base (fun k => S k ∨ w.heap.size ≤ k) g l1) ∧ Aside0 (Kp (fun k => S k ∨ w.heap.size ≤ k) w w'))
  case atStart => exact ⟨0, l, rfl, ⟨by omega⟩, Nat.zero_le _, hsm, HR, HT, ⟨Kp.refl _ _⟩⟩
  case round =>
    clear HT HR hsm
    obtain ⟨k, l1, rfl, HK, hk, hsm, HR, HT, HP⟩ := hrel
    cases gk with
    | zero => exact absurd HK.out (by omega)
    | succ k1 =>
      by_cases hkl : k < ids.length
      · obtain ⟨ad, e0, hx⟩ := Kd.at_int HI.out (k : Int) (by omega) (by omega)
        cases e0
        simp only [Int.toNat_natCast] at hx
        have hxlt : ad.block < w.heap.size := by
          unfold World.cell? at hx
          by_cases hh : (ad.add k).block < w.heap.size
          · rw [add_block] at hh; exact hh
          · rw [Array.getElem?_eq_none (by simpa using hh)] at hx; simp at hx
        have hx2 : wr.cell? (ad.add k) = some (.int .i64 (rd ids (k : Int))) := HP.out.cell hx (by rw [add_block]; rintro (h | h); exact HF.out ad rfl h; omega)
        have hdr : ids.drop k = rd ids (k : Int) :: ids.drop (k + 1) := by
          rw [List.drop_eq_getElem_cons hkl]
          simp [rd, List.getD, hkl]
        rw [hdr] at HR
        clear hx hdr hxlt
        generalize rd ids (k : Int) = id at hx2 HR
        obtain ⟨r, hr⟩ : ∃ r, r = findI l1 id := ⟨_, rfl⟩
        have HRI := Aside0.mk hr
        have hlt := hr ▸ findI_lt l1 id
        clear hr
        obtain ⟨A0, c0, hblk, hrow⟩ := HT.out.row
        have hcell : wr.cell? ⟨g, 0, none⟩ = some (.slice A0 l1.length c0) := (blk_cell hblk 0).trans rfl
        have HBLK := Aside0.mk hblk
        have HROW := Aside0.mk hrow
        have HC := Aside0.mk (Kd.R_reads' hrow).2.2
        clear hblk hrow
        go_wp2_with fail
        refine (find_calls g id r A0 c0 l1 wr hcell HC.out HRI).mono ?_
        rintro e w1 ⟨rfl, hb1⟩
        have hcell1 := (hb1.cell (p := ⟨g, 0, none⟩) HT.out.lt).trans hcell
        replace HBLK := Aside0.mk ((hb1.block g HT.out.lt).trans HBLK.out)
        replace HROW := Aside0.mk (Kd.R_below HROW.out hb1)
        replace HC := Aside0.mk (Kd.C_below HC.out hb1)
        replace HT := Aside0.mk (HT.out.below hb1)
        replace HP := Aside0.mk (HP.out.trans (Kp.of_below hb1))
        clear hb1 hcell hx2
        rcases hlt with hneg | ⟨i, rfl, hil⟩
        · have HA : Aside0 ((r1, r2) = (8, l1)) := ⟨by rw [HR.out]; unfold grantL; rw [if_pos (.inl (by rw [← HRI.out]; exact hneg))]⟩
          go_wp2
          go_ret
          have h1 := congrArg Prod.fst HA.out
          have h2 := congrArg Prod.snd HA.out
          dsimp only at h1 h2
          exact ⟨by rw [h1]; rfl, by rw [h2]; exact HT.out, HP.out⟩
        · obtain ⟨ad2, A2, c2, e2, hz0, hz1, hz2, hl2, hi2⟩ := at_T61 HC.out (i : Int) (by omega) (by omega)
          cases e2
          clear hl2 hi2
          simp only [Int.toNat_natCast] at hz0 hz1 hz2
          obtain ⟨y, hy⟩ : ∃ y, y = rd_T61 l1 (i : Int) := ⟨_, rfl⟩
          rw [← hy] at hz0 hz1 hz2
          have HY := Aside0.mk hy
          clear hy
          cases hyf : y.f2 with
          | true =>
            rw [hyf] at hz2
            have HA : Aside0 ((r1, r2) = (8, l1)) := ⟨by rw [HR.out]; unfold grantL; rw [if_pos (.inr (by rw [← HRI.out]; unfold heldAt; rw [← HY.out]; exact hyf))]⟩
            go_wp2
            go_ret
            have h1 := congrArg Prod.fst HA.out
            have h2 := congrArg Prod.snd HA.out
            dsimp only at h1 h2
            exact ⟨by rw [h1]; rfl, by rw [h2]; exact HT.out, HP.out⟩
          | false =>
            rw [hyf] at hz2
            have HA : Aside0 ((r1, r2) = if readyT l1 i = false then (18, l1) else grantL (hold l1 i) (ids.drop (k + 1))) := ⟨by
              rw [HR.out]
              conv => lhs; unfold grantL
              rw [if_neg (by rw [← HRI.out]; rintro (h | h); omega; unfold heldAt at h; rw [← HY.out, hyf] at h; cases h), ← HRI.out, Int.toNat_natCast]⟩
            clear HR
            go_wp2_with fail
            obtain ⟨b, hb⟩ : ∃ b, b = readyT l1 i := ⟨_, rfl⟩
            have HBR := Aside0.mk hb
            rw [← hb] at HA
            clear hb
            refine (ready_calls g i (some ad2) c0 l1 b w1 hcell1 HC.out hil HBR).mono ?_
            rintro e w2 ⟨rfl, hb2⟩
            have hcell2 := (hb2.cell (p := ⟨g, 0, none⟩) HT.out.lt).trans hcell1
            replace HBLK := Aside0.mk ((hb2.block g HT.out.lt).trans HBLK.out)
            replace HROW := Aside0.mk (Kd.R_below HROW.out hb2)
            replace HT := Aside0.mk (HT.out.below hb2)
            replace HP := Aside0.mk (HP.out.trans (Kp.of_below hb2))
            clear hb2 hcell1 HC hz0 hz1 hz2
            cases b with
            | false =>
              have HA2 : Aside0 ((r1, r2) = (18, l1)) := ⟨by rw [HA.out, if_pos rfl]⟩
              clear HA
              go_wp2
              go_ret
              have h1 := congrArg Prod.fst HA2.out
              have h2 := congrArg Prod.snd HA2.out
              dsimp only at h1 h2
              exact ⟨by rw [h1]; rfl, by rw [h2]; exact HT.out, HP.out⟩
            | true =>
              have HA2 : Aside0 ((r1, r2) = grantL (hold l1 i) (ids.drop (k + 1))) := ⟨by rw [HA.out, if_neg (by decide)]⟩
              clear HA
              obtain ⟨gr, _, ef, _, _, _⟩ := Kd.R_form HROW.out (by omega)
              injection ef with ef1 _ ef3
              injection ef1 with ef1
              subst ef1
              clear ef3
              obtain ⟨cc, hcl, hM, hcc, hfz⟩ := Kd.R_elem HROW.out z61 (i : Int) (by omega) (by omega)
              have hy2 : l1.getD (i : Int).toNat z61 = y := HY.out.symm
              rw [hy2] at hM
              obtain ⟨v0, rfl, hR0⟩ := k61_openM hM
              have HR0 := Aside0.mk hR0
              have hgne : gr ≠ g := (HROW.out.1 gr (by simp [Value.ownBlock])).2
              have HGS := Aside0.mk (HROW.out.1 gr (by simp [Value.ownBlock])).1
              have hadd : (⟨gr, 0, none⟩ : Addr).add (i * 3) = ⟨gr, i * 3, none⟩ := by rw [add_at, Nat.zero_add]
              have HCC := Aside0.mk hcc
              have HHD : Aside0 (hold l1 i = l1.set i ⟨y.f0, y.f1, true⟩) := ⟨by unfold hold; rw [← HY.out]⟩
              clear hM hcl hcc hfz hR0 hy2
              go_wp2_with (first | ((with_reducible refine gate_store (t := 4) (p := 43) rfl ?_); refine Kd.R_store k61 (w0 := w2) base rfl rfl 4 (.tmp 43) (.const (.bool true)) rfl 61 (i : Int) 2 l1 ⟨y.f0, y.f1, true⟩ (.bool true) [.bool true] [v0, .int .i64 y.f1, .bool y.f2] (fun k => (S k ∨ w.heap.size ≤ k) ∧ k ≠ g) (fun k => ((S k ∨ w.heap.size ≤ k) ∧ k ≠ g) ∧ k ≠ gr) ?so rfl rfl rfl info4 (fun q hq => by rcases List.mem_singleton.1 hq with rfl; rfl) HROW.out (by omega) (by omega) rfl HCC.out (Nat.le_refl _) (k61_mkM _ _ _ ⟨y.f0, y.f1, true⟩ HR0.out) (fun _ hk => hk) (Below.refl _ _) ?_; (case so => rfl); intro w3 ho hb hg_; rw [Int.toNat_natCast, ← HHD.out] at ho; have HO3 := Aside0.mk ho; have HG3 := Aside0.mk hg_; have HB3 := Aside0.mk ((hg_.block g HT.out.lt (fun e => hgne (Option.some.inj e).symm)).trans HBLK.out); have hs3 := hg_.size; clear ho hb hg_))
              have HT3 : Aside0 (TabAt w3 base (fun k => S k ∨ w.heap.size ≤ k) g (hold l1 i)) := ⟨⟨HT.out.own, HT.out.ge, some ⟨gr, 0, none⟩, c0, by rw [hold_length]; exact HB3.out, by rw [hold_length]; exact HO3.out⟩⟩
              have HP3 := Aside0.mk (HP.out.trans (Kp.of_grown HG3.out (fun k hk => by rw [← Option.some.inj hk]; exact HGS.out)))
              go_roundg k1
              case measure => have := HK.out; omega
              case rel => exact ⟨k + 1, hold l1 i, by go_num, ⟨by have := HK.out; omega⟩, by omega, by rw [hold_length]; exact hsm, HA2, HT3, HP3⟩
      · have HA : Aside0 ((r1, r2) = (0, l1)) := ⟨by rw [HR.out, List.drop_eq_nil_of_le (by omega)]; rfl⟩
        go_wp2
        go_ret
        have h1 := congrArg Prod.fst HA.out
        have h2 := congrArg Prod.snd HA.out
        dsimp only at h1 h2
        exact ⟨by rw [h1]; rfl, by rw [h2]; exact HT.out, HP.out⟩
end Go.Proofs.Ytbpadimcnamdpaa.PK
