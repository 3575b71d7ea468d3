/- lock: a table in memory; New, Ask. -/
import Derived.Test.YtbpadimcnamdpaaLkUnion
import Derived.Deep.RegionLaw
namespace Go.Proofs.Ytbpadimcnamdpaa.PK
open Go.RowKit Go.Proofs.YtbpadimcnamdpaaW.PrintWords Go.Proofs.YtbpadimcnamdpaaW.PrintLast Go.Proofs.YtbpadimcnamdpaaW.PrintMore
/-- A table at block g: its asks in a row of its own, the wants in rows of theirs; S: the blocks that are the table's; none lies below base. -/
structure TabAt (w : World) (base : Nat) (S : Nat → Prop) (g : Nat) (l : List Ask) : Prop where
  own : S g
  ge : base ≤ g
  row : ∃ A c, w.heap[g]? = some (.cells #[.slice A l.length c] 52 (0, 0)) ∧ Kd.R k61 61 w base (fun k => S k ∧ k ≠ g) (.slice A l.length c) l
theorem TabAt.cell {w : World} {base g : Nat} {S : Nat → Prop} {l : List Ask} (h : TabAt w base S g l) : ∃ A c, w.cell? ⟨g, 0, none⟩ = some (.slice A l.length c) ∧ Kd.C k61 w A l.length l := by
  obtain ⟨A, c, h1, h2⟩ := h.row
  exact ⟨A, c, (blk_cell h1 0).trans rfl, (Kd.R_reads' h2).2.2⟩
theorem TabAt.lt {w : World} {base g : Nat} {S : Nat → Prop} {l : List Ask} (h : TabAt w base S g l) : g < w.heap.size := by
  obtain ⟨A, c, h1, _⟩ := h.row
  exact blk_lt h1
theorem TabAt.below {w w1 : World} {base g : Nat} {S : Nat → Prop} {l : List Ask} (h : TabAt w base S g l) (hb : Below w.heap.size w w1) : TabAt w1 base S g l := by
  obtain ⟨A, c, h1, h2⟩ := h.row
  exact ⟨h.own, h.ge, A, c, (hb.block g (blk_lt h1)).trans h1, Kd.R_below h2 hb⟩
set_option maxRecDepth 100000 in
theorem New_calls (w : World) : Calls Try.prog 13 #[] w fun e w' => e = .returned (.pointer (some ⟨w.heap.size, 0, none⟩)) ∧ TabAt w' w.heap.size (fun k => w.heap.size ≤ k) w.heap.size [] ∧ Below w.heap.size w w' := by
  go_enter Try.func13, Try.ntmps13
  go_wp2
  go_ret
  exact ⟨rfl, ⟨Nat.le_refl _, Nat.le_refl _, none, 0, blk_new w _, Kd.R_nil _ _ _ _ _⟩, below_alloc (Below.refl _ _) _⟩
end Go.Proofs.Ytbpadimcnamdpaa.PK
