/- The plain law of SealBack. -/
import Derived.Test.YtlpjibmafpegeaaDoorPureFrame
import Derived.Test.YtlpjibmafpegeaaDoorPureSealOpens
namespace Go.Proofs.YtlpjibmafpegeaaDoor.PA
open Go.RowKit Go.Proofs.YtlpjibmafpegeaaDoorW.PrintWords Go.Proofs.YtlpjibmafpegeaaDoorW.PrintLast Go.Proofs.YtlpjibmafpegeaaDoorW.PrintMore
open Go.Proofs.YtlpjibmafpegeaaDoor.PR (wrap64_id wrap64_nat)
/-- What join comes to: true, where there are at most 20 texts of at most 1500 bytes in all. -/
theorem join_go (l : List ByteArray) (hl : l.length ≤ 9223372036854775807) (n : Nat) : ∀ (i : Nat) (acc : ByteArray) (k : Nat), i + n = min l.length 20 → acc.size ≤ 1500 * i → 2 * n + 3 ≤ k → (∀ s ∈ l.take i, s.size ≤ 1500) →
    ∃ s b, PR.affluxlaw05_join.l0 k l acc (i : Int) = some (s, b) ∧ (b = true → l.length ≤ 20 ∧ (∀ x ∈ l, x.size ≤ 1500) ∧ s = acc ++ Crc.mkB (Crc.joined (l.drop i)) ∧ s.size ≤ 1500) := by
  induction n with
  | zero =>
    intro i acc k hi ha hk hall
    obtain ⟨k, rfl⟩ : ∃ m, k = m + 1 := ⟨k - 1, by omega⟩
    obtain ⟨k, rfl⟩ : ∃ m, k = m + 1 := ⟨k - 1, by omega⟩
    have hend : ∃ s b, PR.affluxlaw05_join.j1 (k + 1) l acc (i : Int) false = some (s, b) ∧ (b = true → l.length ≤ 20 ∧ (∀ x ∈ l, x.size ≤ 1500) ∧ s = acc ++ Crc.mkB (Crc.joined (l.drop i)) ∧ s.size ≤ 1500) := by
      simp only [PR.affluxlaw05_join.j1, Bool.false_eq_true, if_false]
      by_cases h20 : l.length ≤ 20
      · rw [if_pos (by omega)]
        refine ⟨acc, _, rfl, fun hb => ⟨h20, fun x hx => hall x ?_, ?_, ?_⟩⟩
        · rw [List.take_of_length_le (by omega)]; exact hx
        · rw [List.drop_eq_nil_of_le (by omega)]
          apply ByteArray.ext
          simp [Crc.joined, Crc.mkB]
        · have := of_decide_eq_true hb; omega
      · rw [if_neg (by omega)]
        exact ⟨acc, false, rfl, fun hb => by cases hb⟩
    simp only [PR.affluxlaw05_join.l0]
    by_cases hlt : i < l.length
    · rw [if_pos (by omega), show decide ((i : Int) < 20) = false by simp; omega]
      exact hend
    · rw [if_neg (by omega)]
      exact hend
  | succ n ih =>
    intro i acc k hi ha hk hall
    have hlt : i < l.length := by omega
    obtain ⟨k, rfl⟩ : ∃ m, k = m + 1 := ⟨k - 1, by omega⟩
    obtain ⟨k, rfl⟩ : ∃ m, k = m + 1 := ⟨k - 1, by omega⟩
    simp only [PR.affluxlaw05_join.l0]
    rw [if_pos (by omega), show decide ((i : Int) < 20) = true by simp; omega]
    simp only [PR.affluxlaw05_join.j1]
    rw [if_pos trivial, if_pos (by omega), if_pos (by omega), rdOf_at l i hlt]
    by_cases hbig : 1500 < (l[i]).size
    · rw [if_pos (by omega)]
      exact ⟨_, false, rfl, fun hb => by cases hb⟩
    · rw [if_neg (by omega), if_pos (by omega), wrap64_id _ (by omega) (by omega), show (i : Int) + 1 = ((i + 1 : Nat) : Int) by omega]
      obtain ⟨s, b, h1, h2⟩ := ih (i + 1) (acc ++ l[i]) k (by omega) (by rw [ByteArray.size_append]; omega) (by omega) (fun x hx => by
        rw [List.take_succ_eq_append_getElem hlt] at hx
        rcases List.mem_append.1 hx with hx | hx
        · exact hall x hx
        · rw [List.mem_singleton.1 hx]; omega)
      refine ⟨s, b, h1, fun hb => ?_⟩
      obtain ⟨h3, h4, h5, h6⟩ := h2 hb
      refine ⟨h3, h4, ?_, h6⟩
      rw [h5, List.drop_eq_getElem_cons hlt, joined_cons, ← Crc.mkB_append, show Crc.mkB l[i].data.toList = l[i] from rfl, ByteArray.append_assoc]
theorem join_at (l : List ByteArray) (hl : l.length ≤ 9223372036854775807) (k : Nat) (hk : 50 ≤ k) : ∃ s b, PR.affluxlaw05_join.f k l = some (s, b) ∧ (b = true → l.length ≤ 20 ∧ (∀ x ∈ l, x.size ≤ 1500) ∧ s = Crc.mkB (Crc.joined l) ∧ s.size ≤ 1500) := by
  unfold PR.affluxlaw05_join.f
  obtain ⟨s, b, h1, h2⟩ := join_go l hl (min l.length 20) 0 ⟨#[]⟩ k (by omega) (by simp [ByteArray.size]) (by omega) (by simp)
  refine ⟨s, b, h1, fun hb => ?_⟩
  obtain ⟨h3, h4, h5, h6⟩ := h2 hb
  refine ⟨h3, h4, ?_, h6⟩
  rw [h5, List.drop_zero]
  apply ByteArray.ext
  simp [Crc.mkB]
def datas (l : List ByteArray) : List (List UInt8) := l.map (·.data.toList)
theorem datas_back (l : List ByteArray) : (datas l).map Crc.mkB = l := by
  unfold datas
  rw [List.map_map]
  conv => rhs; rw [← List.map_id l]
  rfl
theorem same_iff_take (l : List ByteArray) (m : Nat) : ((datas l).take m).map Crc.mkB = l.take m := by rw [List.map_take, datas_back]
theorem frames_le (l : List (List UInt8)) (B : Nat) (h : ∀ d ∈ l, d.length ≤ B) : (Crc.framesL l).length ≤ l.length * (B + 12) := by
  induction l with
  | nil => simp [Crc.framesL]
  | cons d l ih =>
    have h1 := h d List.mem_cons_self
    have h2 := ih (fun x hx => h x (List.mem_cons_of_mem _ hx))
    rw [Crc.framesL_cons, List.length_append, Crc.frame_length, List.length_cons, Nat.add_mul]
    omega
theorem back_l0 (l : List ByteArray) (a : Int) (h20 : l.length ≤ 20) (h0 : 0 < l.length) (hsz : ∀ x ∈ l, x.size ≤ 1500) (n : Nat) : ∀ (i k : Nat), i + n = l.length → n + 40000 ≤ k →
    affluxlaw05_SealBack.l0 k l a (Crc.mkB (Crc.framesL ((datas l).take i))) (i : Int) = some true := by
  have hd : ∀ d ∈ datas l, d.length ≤ 1500 := fun d hd => by
    obtain ⟨x, hx, rfl⟩ := List.mem_map.1 hd
    exact hsz x hx
  have hdl : (datas l).length = l.length := by simp [datas]
  have hle : ∀ i, (Crc.framesL ((datas l).take i)).length ≤ 30240 := fun i => by
    have h1 := frames_le ((datas l).take i) 1500 (fun d h => hd d (List.mem_of_mem_take h))
    have h2 : ((datas l).take i).length ≤ 20 := by rw [List.length_take]; omega
    have h3 := Nat.mul_le_mul_right (1500 + 12) h2
    omega
  induction n with
  | zero =>
    intro i k hi hk
    obtain ⟨k, rfl⟩ : ∃ m, k = m + 1 := ⟨k - 1, by omega⟩
    simp only [affluxlaw05_SealBack.l0]
    rw [if_neg (by omega), List.take_of_length_le (by omega)]
    have hz := hle l.length
    rw [List.take_of_length_le (by omega)] at hz
    have hpos : 0 < (Crc.framesL (datas l)).length := by
      cases hdd : datas l with
      | nil => rw [hdd] at hdl; simp at hdl; omega
      | cons d r => rw [Crc.framesL_cons, List.length_append, Crc.frame_length]; omega
    have hsize : (Crc.mkB (Crc.framesL (datas l))).size = (Crc.framesL (datas l)).length := rfl
    have hU : IntKind.u64.wrap ((Crc.mkB (Crc.framesL (datas l))).size : Int) = ((Crc.framesL (datas l)).length : Int) := by rw [hsize]; exact PR.wrapU_id _ (by omega) (by omega)
    have hUa : 0 ≤ IntKind.u64.wrap a ∧ IntKind.u64.wrap a < 18446744073709551616 := by
      simp [IntKind.wrap, IntKind.bits, IntKind.signed]; omega
    generalize IntKind.u64.wrap a = ua at hUa
    rw [if_neg (by omega), all_at _ (by omega) _ (by omega), Option.bind_some, hU, if_neg (by omega), Int.tmod_eq_emod_of_nonneg hUa.1]
    have hm0 : 0 ≤ ua % ((Crc.framesL (datas l)).length : Int) := Int.emod_nonneg _ (by omega)
    have hm1 : ua % ((Crc.framesL (datas l)).length : Int) < ((Crc.framesL (datas l)).length : Int) := Int.emod_lt_of_pos _ (by omega)
    generalize ua % ((Crc.framesL (datas l)).length : Int) = c at hm0 hm1
    obtain ⟨c, rfl⟩ := Int.eq_ofNat_of_zero_le hm0
    rw [wrap64_id _ (by omega) (by omega), if_pos (by omega), if_pos (by omega), Int.toNat_natCast, ext_mkB, List.drop_zero, Crc.mkB_list, all_at _ (by rw [Crc.mkB_size, List.length_take]; omega) _ (by rw [Crc.mkB_size, List.length_take]; omega), Option.bind_some]
    obtain ⟨m, t0, cut, h1, h2, h3, h4, h5⟩ := Crc.all_cut (datas l) (fun d h => by have := hd d h; omega) c (by omega)
    unfold allB
    rw [Crc.mkB_list, Crc.mkB_list, Crc.all_frames (datas l) (fun d h => by have := hd d h; omega), h5]
    dsimp only
    rw [datas_back, same_iff_take, same_at l (by omega) _ (by omega), Option.bind_some, if_pos rfl, if_pos (by rw [hsize]), if_pos (by omega), if_pos (by rw [List.length_take]; omega), if_pos (by omega), Int.toNat_natCast, List.length_take]
    have e : l.take (min m l.length) = l.take m := by
      rw [← List.take_take, List.take_of_length_le (Nat.le_refl _)]
    rw [e, same_at _ (by rw [List.length_take]; omega) _ (by rw [List.length_take]; omega), Option.bind_some, if_pos rfl, if_pos (by omega)]
    rw [if_pos (by
      by_cases hc : t0 = c
      · rw [beq_iff_eq.2 (by omega : (t0 : Int) = (c : Int)), beq_iff_eq.2 (by have := h3.1 hc; omega : (cut : Int) = 0)]; rfl
      · rw [beq_eq_false_iff_ne.2 (by omega : (t0 : Int) ≠ (c : Int)), beq_eq_false_iff_ne.2 (fun hz => hc (h3.2 (by omega)) : (cut : Int) ≠ 0)]; rfl)]
    rw [if_neg (by omega), awake_at _ (by omega)]
    rfl
  | succ n ih =>
    intro i k hi hk
    have hlt : i < l.length := by omega
    have hxs := hsz l[i] (List.getElem_mem hlt)
    obtain ⟨k, rfl⟩ : ∃ m, k = m + 1 := ⟨k - 1, by omega⟩
    simp only [affluxlaw05_SealBack.l0]
    have hz := hle i
    have hfl : (Crc.mkB (Crc.frame (Crc.joined [l[i]]))).size = (l[i]).size + 12 := by rw [Crc.mkB_size, Crc.frame_length, joined_one, size_list]
    rw [if_pos (by omega), if_pos (by omega), rdOf_at l i hlt, frame_at [l[i]] (by rw [joined_one, size_list]; omega) (by simp) k (by simp; omega), Option.bind_some]
    dsimp only
    rw [if_pos rfl, if_pos (by rw [hfl, Crc.mkB_size]; omega), wrap64_id _ (by omega) (by omega), show (i : Int) + 1 = ((i + 1 : Nat) : Int) by omega, Crc.mkB_append, joined_one]
    have e : (datas l).take (i + 1) = (datas l).take i ++ [l[i].data.toList] := by
      rw [List.take_succ_eq_append_getElem (by omega)]
      simp [datas]
    rw [← Crc.framesL_snoc, ← e]
    exact ih (i + 1) k (by omega) (by omega)
theorem SealBack_pure (l : List ByteArray) (hl : l.length ≤ 9223372036854775807) (a : Int) : affluxlaw05_SealBack.f 50000 l a = some true := by
  unfold affluxlaw05_SealBack.f
  obtain ⟨s, b, h1, h2⟩ := join_at l hl 50000 (by omega)
  rw [h1, Option.bind_some]
  dsimp only
  have haw : ∀ x : Bool, x = true → affluxlaw05_SealBack.j0 50000 l a x = some true := fun x hx => by
    subst hx
    rw [show 50000 = 49999 + 1 from rfl]
    simp only [affluxlaw05_SealBack.j0]
    rw [if_pos trivial, awake_at _ (by omega)]
    rfl
  cases b with
  | false => rw [if_neg (by decide)]; exact haw _ rfl
  | true =>
    obtain ⟨h20, hsz, _, _⟩ := h2 rfl
    rw [if_pos rfl]
    by_cases h0 : l.length = 0
    · exact haw _ (beq_iff_eq.2 (by omega))
    · rw [beq_eq_false_iff_ne.2 (by omega), show 50000 = 49999 + 1 from rfl]
      simp only [affluxlaw05_SealBack.j0, Bool.false_eq_true, if_false]
      exact back_l0 l a h20 (by omega) hsz l.length 0 49999 (by omega) (by omega)
end Go.Proofs.YtlpjibmafpegeaaDoor.PA
