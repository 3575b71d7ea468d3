/- The reference's Turned, in closed form. -/
import Derived.Test.YtlpjibmafpegeaaDoorBurst
import Derived.Test.YtlpjibmafpegeaaDoorPRx1
import Derived.WalkKit
import Derived.StillTailTactics
import Derived.Laws.IdiomStrings
namespace Go.Proofs.YtlpjibmafpegeaaDoor
open Go.RowKit Go.Proofs.YtlpjibmafpegeaaDoorW.PrintWords Go.Proofs.YtlpjibmafpegeaaDoorW.PrintLast Go.Proofs.YtlpjibmafpegeaaDoorW.PrintMore
namespace Tn
/-- A row of bytes that a text's conversion has made. -/
def Row (w : World) (g : Nat) (l : List UInt8) : Prop := ∃ cs : Array Value, w.heap[g]? = some (.cells cs 5 (cs.size, cs.size + 1)) ∧ l.length ≤ cs.size ∧ ∀ j, j < l.length → cs[j]? = some (.int .u8 ((l.getD j 0).toNat : Int))
theorem Row.cell {w : World} {g : Nat} {l : List UInt8} (h : Row w g l) (j : Nat) (hj : j < l.length) : w.cell? ⟨g, j, none⟩ = some (.int .u8 ((l.getD j 0).toNat : Int)) := by
  obtain ⟨cs, h1, h2, h3⟩ := h
  unfold World.cell?
  rw [h1]
  exact h3 j hj
theorem Row.frozen {w : World} {g : Nat} {l : List UInt8} (h : Row w g l) (j : Nat) (hj : j < l.length) : w.frozen? ⟨g, j, none⟩ = false := by
  obtain ⟨cs, h1, h2, h3⟩ := h
  unfold World.frozen?
  rw [h1]
  simp; omega
theorem Row.set {w : World} {g : Nat} {l : List UInt8} (h : Row w g l) (j : Nat) (hj : j < l.length) (b : UInt8) : Row (w.setCell ⟨g, j, none⟩ (.int .u8 (b.toNat : Int))) g (l.set j b) := by
  obtain ⟨cs, h1, h2, h3⟩ := h
  refine ⟨cs.setIfInBounds j (.int .u8 (b.toNat : Int)), ?_, by simpa using h2, fun i hi => ?_⟩
  · unfold World.setCell
    simp only [Array.getElem?_modify, h1]
    simp
  · rw [Array.getElem?_setIfInBounds]
    rw [List.length_set] at hi
    by_cases e : j = i
    · subst e
      rw [if_pos rfl, if_pos (by omega)]
      simp [List.getD, hj]
    · rw [if_neg e, h3 i hi]
      simp only [List.getD, List.getElem?_set, if_neg e]
theorem Row.set_of {w : World} {g : Nat} {l : List UInt8} (h : Row w g l) (j : Nat) (hj : j < l.length) (b : UInt8) (n : Int) (hn : n = (b.toNat : Int)) (m : List UInt8) (hm : m = l.set j b) : Row (w.setCell ⟨g, j, none⟩ (.int .u8 n)) g m := by
  subst hn hm; exact h.set j hj b
theorem xor_bit (b : UInt8) (q : Nat) (hq : q < 8) (m : Int) (hm : m = 2 ^ q % 256) : bits .xor .u8 (b.toNat : Int) m = ((UInt8.ofNat (b.toNat ^^^ 2 ^ q)).toNat : Int) := by
  have hb := b.toNat_lt
  have h2 : (2 : Nat) ^ q ≤ 2 ^ 7 := Nat.pow_le_pow_right (by omega) (by omega)
  have hx : b.toNat ^^^ 2 ^ q < 2 ^ 8 := Nat.xor_lt_two_pow (by omega) (by omega)
  have h3 : (2 : Int) ^ q = ((2 ^ q : Nat) : Int) := by rw [Int.natCast_pow]; rfl
  have hm' : m = ((2 ^ q : Nat) : Int) := by
    rw [hm, h3]
    generalize 2 ^ q = t at h2
    omega
  show IntKind.u8.wrap (((BitVec.ofInt 8 (b.toNat : Int)) ^^^ (BitVec.ofInt 8 m)).toNat : Int) = _
  rw [hm', BitVec.ofInt_natCast, BitVec.ofInt_natCast, BitVec.toNat_xor, BitVec.toNat_ofNat, BitVec.toNat_ofNat, Nat.mod_eq_of_lt (by omega), Nat.mod_eq_of_lt (by omega), UInt8.toNat_ofNat', Nat.mod_eq_of_lt hx]
  simp [IntKind.wrap, IntKind.bits, IntKind.signed]; omega
theorem bit_of (x : Int) (h0 : 0 ≤ x) (h1 : x < 18446744073709551616) (i : Nat) (hi : i < 64) : (BitVec.ofInt 64 x).getLsbD i = (Int.tmod (x / 2 ^ i) 2 == 1) := by
  obtain ⟨n, rfl⟩ := Int.eq_ofNat_of_zero_le h0
  rw [BitVec.ofInt_natCast, BitVec.getLsbD_ofNat, decide_eq_true hi, Bool.true_and, Nat.testBit_eq_decide_div_mod_eq]
  have e : ((n : Int) / 2 ^ i) = ((n / 2 ^ i : Nat) : Int) := by rw [Int.natCast_ediv, Int.natCast_pow]; rfl
  clear h0 h1
  generalize n / 2 ^ i = z at e
  rw [e, Int.tmod_eq_emod_of_nonneg (Int.natCast_nonneg _)]
  by_cases h : z % 2 = 1
  · rw [decide_eq_true h, beq_iff_eq.2 (by omega)]
  · rw [decide_eq_false h, beq_eq_false_iff_ne.2 (by omega)]
theorem Row.drewN {w : World} {g : Nat} {l : List UInt8} (h : Row w g l) (n : Nat) : Row (w.drewN n) g l := h
theorem row_new (w : World) (s : ByteArray) : Row (Lib.bytesWorld w 5 s) w.heap.size s.data.toList := by
  refine ⟨_, Lib.bytesWorld_at_new w _ s, ?_, fun j hj => ?_⟩
  · simp only [Lib.bytesCells, Array.size_append, Array.size_map]
    show s.data.toList.length ≤ _
    rw [Array.length_toList]
    omega
  · have hj' : j < s.size := hj
    have := Lib.bytesWorld_cell w 5 s j hj'
    unfold World.cell? at this
    rw [Lib.bytesWorld_at_new] at this
    exact this
theorem row_back {w : World} {g : Nat} {l : List UInt8} (h : Row w g l) (cap : Nat) : (convert 37 9 (.slice (some ⟨g, 0, none⟩) l.length cap)).run Tryd.prog w = .ok (.string ⟨l.toArray⟩) w := by
  refine run_convert_bytes_back w 37 9 5 ⟨g, 0, none⟩ cap l Tryd.underlying37 Tryd.underlying5 Tryd.underlying9 (fun j hj => ?_)
  have := h.cell j hj
  rw [show (⟨g, 0, none⟩ : Addr).add j = ⟨g, j, none⟩ by simp [Addr.add]; omega, this]
  simp [List.getD, hj]
end Tn
def affluxref05_Turned.f (a0 : ByteArray) (a1 a2 : Int) : Option ByteArray := if a0.size ≤ 1099511627776 ∧ 0 ≤ a1 ∧ a1 ≤ 1125899906842624 ∧ 0 ≤ a2 ∧ a2 < 18446744073709551616 then some (Crc.mkB (Crc.turned a0.data.toList a1.toNat (BitVec.ofInt 64 a2))) else none
set_option maxRecDepth 100000 in
theorem affluxref05_Turned.calls (a0 : ByteArray) (a1 a2 : Int) (r : ByteArray) (w : World) (h : affluxref05_Turned.f a0 a1 a2 = some r) :
    Calls Tryd.prog 16 #[.string a0, .int .i64 a1, .int .u64 a2] w fun e w' => e = .returned (.string r) ∧ Below w.heap.size w w' := by
  unfold affluxref05_Turned.f at h
  split at h
  · rename_i hc
    obtain ⟨hs, ha0, ha1, hx0, hx1⟩ := hc
    have HR := Aside0.mk (Option.some.inj h)
    clear h
    obtain ⟨a, rfl⟩ := Int.eq_ofNat_of_zero_le ha0
    rw [Int.toNat_natCast] at HR
    have kb := print_bytes (P := Tryd.prog) 9 37 5 Tryd.underlying9 Tryd.underlying37 Tryd.underlying5 a0 w
    have hrow := Aside0.mk (Tn.row_new w a0)
    have hbel := Aside0.mk (bytes_below (Below.refl w.heap.size w) (Nat.le_refl _) 5 a0)
    generalize hcap : grownCap w a0.size 0 5 = cap at kb
    generalize hW : Lib.bytesWorld w 5 a0 = W at kb hrow hbel
    clear hcap hW
    go_enter Tryd.func16, Tryd.ntmps16
    go_wp2
    clear kb
    go_loopg [8] 65 (fun kq v8 w' => ∃ i : Nat, v8 = .int .i64 i ∧ Aside0 (i + kq = 65) ∧ i ≤ 64 ∧ Aside0 (Tn.Row w' w.heap.size (Crc.turnK a0.data.toList a (BitVec.ofInt 64 a2) i)) ∧ Aside0 (Below w.heap.size w w'))
    case atStart => exact ⟨0, rfl, ⟨rfl⟩, Nat.zero_le _, hrow, hbel⟩
    case round =>
      obtain ⟨i, rfl, HK, hi, HROW, HB⟩ := hrel
      cases gk with
      | zero => exact absurd HK.out (by omega)
      | succ k1 =>
        by_cases hlt : i < 64
        · by_cases hin : a + i < 8 * a0.size
          · have hlen : (Crc.turnK a0.data.toList a (BitVec.ofInt 64 a2) i).length = a0.size := by rw [Crc.turnK_length]; rfl
            obtain ⟨j, hj⟩ : ∃ j, j = (a + i) / 8 := ⟨_, rfl⟩
            obtain ⟨q, hq⟩ : ∃ q, q = (a + i) % 8 := ⟨_, rfl⟩
            have hjl : j < a0.size := by omega
            have hcell := HROW.out.cell j (by rw [hlen]; exact hjl)
            have hfr := HROW.out.frozen j (by rw [hlen]; exact hjl)
            have hq8 : q < 8 := by omega
            obtain ⟨p, hp⟩ : ∃ p, p = a + i := ⟨_, rfl⟩
            have e0 : IntKind.i64.wrap ((a : Int) + (i : Int)) = (p : Int) := by rw [IntKind.wrap_i64]; omega
            have e3 : IntKind.i64.wrap (Int.tdiv (p : Int) 8) = (j : Int) := by rw [Int.tdiv_eq_ediv_of_nonneg (by omega), IntKind.wrap_i64]; omega
            have e4 : Int.tmod (p : Int) 8 = (q : Int) := by rw [Int.tmod_eq_emod_of_nonneg (by omega)]; omega
            have e5 : IntKind.i64.wrap ((p : Int) / 8) = (j : Int) := by rw [IntKind.wrap_i64]; omega
            have hpl : (p : Int) < 8 * (a0.size : Int) := by omega
            have HJ := Aside0.mk hj
            have HQ := Aside0.mk hq
            clear hp hj hq
            obtain ⟨bj, hbj⟩ : ∃ b, b = (Crc.turnK a0.data.toList a (BitVec.ofInt 64 a2) i).getD j 0 := ⟨_, rfl⟩
            rw [← hbj] at hcell
            have HBJ := Aside0.mk hbj
            clear hbj
            have hjl' : (j : Int) < (a0.size : Int) := by omega
            have hcell' : (World.mk wr.heap wr.tape (wr.drawn + 1) wr.os wr.output).cell? ⟨w.heap.size, j, none⟩ = some (.int .u8 (bj.toNat : Int)) := hcell
            have hx := Tn.bit_of a2 hx0 hx1 i hlt
            go_wp2
            · rename_i hbit
              go_still_tail 19, (by kernel_rfl)
              change wpList _ _ _ _ _ wr.drew
              have HROW2 : Aside0 (Tn.Row wr.drew w.heap.size (Crc.turnK a0.data.toList a (BitVec.ofInt 64 a2) i)) := ⟨HROW.out⟩
              have HB2 : Aside0 (Below w.heap.size w wr.drew) := ⟨below_drew HB.out⟩
              have hcell2 : wr.drew.cell? ⟨w.heap.size, j, none⟩ = some (.int .u8 (bj.toNat : Int)) := hcell
              have hfr2 : wr.drew.frozen? ⟨w.heap.size, j, none⟩ = false := hfr
              clear hcell' hcell hfr HROW HB
              generalize wr.drew = w2 at HROW2 HB2 hcell2 hfr2
              go_wp2
              go_roundg k1
              case measure => have := HK.out; omega
              case rel =>
                refine ⟨i + 1, rfl, ⟨by have := HK.out; omega⟩, by omega, ⟨?_⟩, ⟨?_⟩⟩
                · refine HROW2.out.set_of j (by rw [hlen]; exact hjl) _ _ (Tn.xor_bit bj q hq8 _ ?_) _ ?_
                  · simp
                  · simp only [Crc.turnK]
                    rw [if_pos ⟨hin, by rw [hx]; exact hbit⟩]
                    unfold Crc.flip
                    rw [← HJ.out, ← HQ.out, ← HBJ.out]
                · exact below_set HB2.out (Nat.le_refl _)
            · rename_i hbit
              go_roundg k1
              case measure => have := HK.out; omega
              case rel =>
                refine ⟨i + 1, rfl, ⟨by have := HK.out; omega⟩, by omega, ⟨?_⟩, HB⟩
                simp only [Crc.turnK]
                rw [if_neg (by rintro ⟨_, h2⟩; rw [hx, hbit] at h2; cases h2)]
                exact HROW.out
          · have HE : Aside0 (r = ⟨(Crc.turnK a0.data.toList a (BitVec.ofInt 64 a2) i).toArray⟩) := ⟨by rw [← HR.out]; unfold Crc.mkB Crc.turned; rw [Crc.turnK_end a0.data.toList a _ i (fun k hk => Nat.le_trans (Nat.le_of_not_lt hin) (by omega)) 64 hi]⟩
            have hcv := Tn.row_back HROW.out cap
            rw [Crc.turnK_length] at hcv
            change (convert 37 9 (.slice (some ⟨w.heap.size, 0, none⟩) a0.size cap)).run Tryd.prog wr = _ at hcv
            rw [← HE.out] at hcv
            go_wp2
            go_ret
            exact ⟨rfl, HB.out⟩
        · have hi64 : i = 64 := by omega
          have HE : Aside0 (r = ⟨(Crc.turnK a0.data.toList a (BitVec.ofInt 64 a2) i).toArray⟩) := ⟨by rw [← HR.out, hi64]; rfl⟩
          have hcv := Tn.row_back HROW.out cap
          rw [Crc.turnK_length] at hcv
          change (convert 37 9 (.slice (some ⟨w.heap.size, 0, none⟩) a0.size cap)).run Tryd.prog wr = _ at hcv
          rw [← HE.out] at hcv
          clear hi64
          go_wp2
          go_ret
          exact ⟨rfl, HB.out⟩
  · cases h
end Go.Proofs.YtlpjibmafpegeaaDoor
