/- Texts of this claim, joined: DkMap, DkSt, DkUse, DkFun, DkDel, DkOps, FrameMath, SnMath, CoW, CoN, CoS, CoR, CoRc, CoRn, DkRead, DkUsed, DkFits, DkThere, DkNames, DkTurn, DkActs, DkSync, DkCut, DkApp, DkPut, DkCrash, DkRun, DkRun2, SnDisk, SnSt, PureOpen. -/
import Derived.Test.YtcbbdkennmopdaaGreatDoorTWMore
import Derived.Test.YtcbbdkennmopdaaGreatDoorTWRepsOne
import Derived.Test.YtcbbdkennmopdaaGreatDoorProg
import Derived.Maps.OwnSet
import Derived.Below
import Derived.Deep.Draws
import Derived.Deep.AppendLies
import Derived.Maps.AppendAt
import Derived.OwnWalk
import Derived.Laws.BytesArg
import Derived.Laws.MakeOwn
import Derived.Laws.OwnMore
import Derived.Deep.OwnRows
import Derived.Tactics
import Derived.Lib.ConvBytes
import Derived.Laws.Slices
import Derived.WalkKit
import Derived.KernelRfl
import Derived.RowKit3
import Derived.Deep.LoopGhost
import Derived.Deep.QuietTactic
import Derived.BigQuiet
import Derived.WideLaws
import Derived.Deep.DeepCutAuto
import Derived.Deep.CutBlock
import Derived.Deep.RegionHeld3
import Derived.Laws.Rows
import Derived.Lib.AppendStr
import Derived.ArgAppend
import Derived.Laws.IdiomCopy
import Derived.OrdersHeld
import Derived.Laws.BitsLemmas
import Derived.RowKit
import Derived.Maps.RangeWalk
import Derived.Lib.Walk
import Derived.Lib.SliceRun
import Derived.Outline
import Derived.WalkSpells
import Derived.Test.YtcbbdkennmopdaaGreatDoorTFrame
import Derived.Deep.RegionLaw
import Derived.Test.YtcbbdkennmopdaaGreatDoorTDkLay
import Derived.Test.YtcbbdkennmopdaaGreatDoorTShelf
import Derived.RegionTactic
import Derived.Test.YtcbbdkennmopdaaGreatDoorTJoin
import Derived.Test.YtcbbdkennmopdaaGreatDoorTPureR
import Derived.Test.YtcbbdkennmopdaaGreatDoorTPAx1
set_option linter.unusedSimpArgs false
set_option linter.unusedVariables false
/- disk: a map of files as a list, its operations. -/
namespace Go.Proofs.YtcbbdkennmopdaaGreatDoor.PK
open Go.RowKit Go.Proofs.YtcbbdkennmopdaaGreatDoorW.PrintWords Go.Proofs.YtcbbdkennmopdaaGreatDoorW.PrintLast Go.Proofs.YtcbbdkennmopdaaGreatDoorW.PrintMore
open Go.Maps
/-- All blocks but those in S are as they were. -/
structure Kp (S : Nat → Prop) (w w' : World) : Prop where
  os : w'.os = w.os
  tape : w'.tape = w.tape
  output : w'.output = w.output
  size : w.heap.size ≤ w'.heap.size
  block : ∀ k, k < w.heap.size → ¬ S k → w'.heap[k]? = w.heap[k]?
theorem Kp.of_below {S : Nat → Prop} {w w' : World} (h : Below w.heap.size w w') : Kp S w w' := ⟨h.os, h.tape, h.output, h.size, fun k hk _ => h.block k hk⟩
theorem Kp.trans {S : Nat → Prop} {w w1 w2 : World} (h : Kp S w w1) (k : Kp S w1 w2) : Kp S w w2 :=
  ⟨k.os.trans h.os, k.tape.trans h.tape, k.output.trans h.output, Nat.le_trans h.size k.size, fun i hi hn => (k.block i (Nat.lt_of_lt_of_le hi h.size) hn).trans (h.block i hi hn)⟩
theorem Kp.refl (S : Nat → Prop) (w : World) : Kp S w w := ⟨rfl, rfl, rfl, Nat.le_refl _, fun _ _ _ => rfl⟩
theorem Kp.mono {S S' : Nat → Prop} {w w' : World} (h : Kp S w w') (hs : ∀ k, k < w.heap.size → S k → S' k) : Kp S' w w' := ⟨h.os, h.tape, h.output, h.size, fun k hk hn => h.block k hk (fun hS => hn (hs k hk hS))⟩
theorem Kp.of_grown {S : Nat → Prop} {w w' : World} {row : Option Nat} (h : w.grownBy w' row) (hr : ∀ k, row = some k → S k) : Kp S w w' :=
  ⟨h.os, h.tape, h.output, h.size, fun k hk hn => h.block k hk (fun e => hn (hr k e.symm))⟩
theorem Kp.of_set {S : Nat → Prop} {w : World} {g j : Nat} {v : Value} (hg : S g) : Kp S w (w.setCell ⟨g, j, none⟩ v) := by
  refine ⟨rfl, rfl, rfl, ?_, fun k hk hn => Below.heap_setCell w ⟨g, j, none⟩ v k (fun e => hn (by rw [e]; exact hg))⟩
  show _ ≤ (Array.modify _ _ _).size
  rw [Array.size_modify]
  exact Nat.le_refl _
theorem Kp.below {S : Nat → Prop} {w w' : World} {B : Nat} (h : Kp S w w') (hB : B ≤ w.heap.size) (hS : ∀ k, S k → B ≤ k) : Below B w w' :=
  ⟨h.os, h.tape, h.output, h.size, fun k hk => h.block k (Nat.lt_of_lt_of_le hk hB) (fun hs => by have := hS k hs; omega)⟩
/-- A file: its name, its block, its bytes, how many of these are kept. -/
structure Fl where
  name : ByteArray
  blk : Nat
  data : ByteArray
  kept : Int
def rP : Value → Option (DataW Unit × List MemPlace)
  | .pointer (some ⟨g, 0, none⟩) => some (.lit (.int .i64 (g : Int)), [])
  | .pointer none => some (.lit (.int .i64 (-1)), [])
  | _ => none
theorem rP_inv {v : Value} {d : DataW Unit} {ps : List MemPlace} {g : Nat} (h : rP v = some (d, ps)) (hd : d = .lit (.int .i64 (g : Int))) : v = .pointer (some ⟨g, 0, none⟩) := by
  subst hd
  unfold rP at h
  split at h
  · injection h with h
    injection h with h _
    injection h with h
    injection h with _ h
    have := Int.ofNat.inj h
    subst this
    rfl
  · injection h with h
    injection h with h _
    injection h with h
    injection h with _ h
    omega
  · cases h
theorem rP_none {v : Value} {d : DataW Unit} {ps : List MemPlace} (h : rP v = some (d, ps)) (hd : d = .lit (.int .i64 (-1))) : v = .pointer none := by
  subst hd
  unfold rP at h
  split at h
  · injection h with h
    injection h with h _
    injection h with h
    injection h with _ h
    omega
  · rfl
  · cases h
/-- Are two names one? -/
def sameN (a b : ByteArray) : Bool := a.data.toList == b.data.toList
theorem sameN_iff {a b : ByteArray} : sameN a b = true ↔ a = b := by
  unfold sameN
  constructor
  · intro h
    have h1 : a.data.toList = b.data.toList := by simpa using h
    cases a; cases b
    simpa using h1
  · rintro rfl
    simp
theorem sameN_ne {a b : ByteArray} : sameN a b = false ↔ a ≠ b := by
  rw [← Bool.not_eq_true, sameN_iff]
theorem sameN_self (a : ByteArray) : sameN a a = true := sameN_iff.2 rfl
def lessN (a b : ByteArray) : Bool := bytesBefore a.data.toList b.data.toList
def keyN (s : ByteArray) : Lit := .string s.data.toList
def encF (f : Fl) : Lit × DataW Unit := (keyN f.name, .lit (.int .i64 (f.blk : Int)))
def mapD (fs : List Fl) : DataW Unit := .map (fs.map encF)
def insF (x : Fl) : List Fl → List Fl
  | [] => [x]
  | y :: r => if lessN x.name y.name = true then x :: y :: r else y :: insF x r
def delF (fs : List Fl) (s : ByteArray) : List Fl := fs.filter fun p => !sameN p.name s
def putF (fs : List Fl) (x : Fl) : List Fl := insF x (delF fs x.name)
def getF (fs : List Fl) (s : ByteArray) : Option Fl := fs.find? fun p => sameN p.name s
theorem key_same (f : Fl) (s : ByteArray) : (encF f).1.sameKey (keyN s) = sameN f.name s := rfl
theorem del_map (fs : List Fl) (s : ByteArray) : (fs.map encF).filter (fun p => !p.1.sameKey (keyN s)) = (delF fs s).map encF := by
  unfold delF
  induction fs with
  | nil => rfl
  | cons y r ih =>
    rw [List.map_cons, List.filter_cons, List.filter_cons, key_same, ih]
    cases sameN y.name s <;> rfl
theorem mapD_del (fs : List Fl) (s : ByteArray) : (mapD fs).del (keyN s) = mapD (delF fs s) := by
  show DataW.map _ = DataW.map _
  rw [del_map]
theorem ins_map (x : Fl) (l : List Fl) : DataW.insert (encF x) (l.map encF) = (insF x l).map encF := by
  induction l with
  | nil => rfl
  | cons y r ih =>
    rw [List.map_cons, insF]
    unfold DataW.insert
    have e : (encF x).1.before (encF y).1 = lessN x.name y.name := rfl
    rw [e]
    cases lessN x.name y.name
    · rw [if_neg (by decide), if_neg (by decide), List.map_cons, ih]
    · rw [if_pos rfl, if_pos rfl]; rfl
theorem mapD_put (fs : List Fl) (x : Fl) : (mapD fs).put (keyN x.name) (.lit (.int .i64 (x.blk : Int))) = mapD (putF fs x) := by
  show DataW.map (DataW.insert (encF x) ((fs.map encF).filter fun p => !p.1.sameKey (keyN x.name))) = _
  rw [del_map, ins_map]
  rfl
theorem find_map (fs : List Fl) (s : ByteArray) : (fs.map encF).find? (fun p => p.1.sameKey (keyN s)) = (getF fs s).map encF := by
  unfold getF
  induction fs with
  | nil => rfl
  | cons y r ih =>
    rw [List.map_cons, List.find?_cons, List.find?_cons, key_same]
    cases sameN y.name s
    · exact ih
    · rfl
theorem mapD_at (fs : List Fl) (s : ByteArray) (z : DataW Unit) : (mapD fs).atKey (keyN s) z = match getF fs s with | some f => .lit (.int .i64 (f.blk : Int)) | none => z := by
  unfold mapD DataW.atKey
  simp only [find_map]
  cases getF fs s <;> rfl
theorem mapD_size (fs : List Fl) : Maps.size (mapD fs) = fs.length := by
  show (fs.map encF).length = _
  rw [List.length_map]
theorem mem_insF {x y : Fl} {l : List Fl} : y ∈ insF x l ↔ y = x ∨ y ∈ l := by
  induction l with
  | nil => simp [insF]
  | cons z r ih =>
    unfold insF
    split
    · simp
    · simp only [List.mem_cons, ih]
      constructor
      · rintro (h | h | h) <;> simp [h]
      · rintro (h | h | h) <;> simp [h]
theorem mem_delF {y : Fl} {l : List Fl} {s : ByteArray} : y ∈ delF l s ↔ y ∈ l ∧ y.name ≠ s := by
  unfold delF
  rw [List.mem_filter]
  constructor
  · rintro ⟨h1, h2⟩
    exact ⟨h1, sameN_ne.1 (by simpa using h2)⟩
  · rintro ⟨h1, h2⟩
    exact ⟨h1, by rw [sameN_ne.2 h2]; rfl⟩
theorem mem_putF {x y : Fl} {l : List Fl} : y ∈ putF l x ↔ y = x ∨ (y ∈ l ∧ y.name ≠ x.name) := by
  unfold putF
  rw [mem_insF, mem_delF]
theorem getF_some {l : List Fl} {s : ByteArray} {f : Fl} (h : getF l s = some f) : f ∈ l ∧ f.name = s := by
  unfold getF at h
  exact ⟨List.mem_of_find?_eq_some h, sameN_iff.1 (by simpa using List.find?_some h)⟩
theorem getF_none {l : List Fl} {s : ByteArray} (h : getF l s = none) : ∀ f ∈ l, f.name ≠ s := by
  unfold getF at h
  intro f hf e
  have := List.find?_eq_none.1 h f hf
  rw [e, sameN_self] at this
  exact this rfl
end Go.Proofs.YtcbbdkennmopdaaGreatDoor.PK
/- disk: a disk in memory. -/
namespace Go.Proofs.YtcbbdkennmopdaaGreatDoor.PK
open Go.RowKit Go.Proofs.YtcbbdkennmopdaaGreatDoorW.PrintWords Go.Proofs.YtcbbdkennmopdaaGreatDoorW.PrintLast Go.Proofs.YtcbbdkennmopdaaGreatDoorW.PrintMore
open Go.Maps
theorem zeroP (w : World) : (zeroValue 115).run Tryz.prog w = .ok (.pointer none) w := by kernel_rfl
theorem keyS : Keyed Tryz.prog 9 := string_keyed Tryz.underlying9
theorem keyOfS {s : ByteArray} (hs : s.size ≤ 9223372036854775807) : keyOf Tryz.prog 9 (.string s) = some (keyN s) := WideMaps.keyOf_string_mk Tryz.underlying9 hs
def ptrF (fs : List Fl) (s : ByteArray) : Option Addr := (getF fs s).map fun f => ⟨f.blk, 0, none⟩
abbrev OwnF (w : World) (b n : Nat) (fs : List Fl) : Prop := w.ownsMap Tryz.prog 9 rP b n (mapD fs)
theorem OwnF.look {w : World} {b n : Nat} {fs : List Fl} (h : OwnF w b n fs) (s : ByteArray) (hs : s.size ≤ 9223372036854775807) : (Instr.lookup 92 (.map (some b)) (.string s) false).run Tryz.prog w = .ok (.pointer (ptrF fs s)) w := by
  obtain ⟨v, ps, hrun, hv⟩ := h.lookup keyS Tryz.underlying92 (zeroP w) (zd := .lit (.int .i64 (-1))) (zp := []) rfl (keyOfS hs)
  rw [mapD_at] at hv
  unfold ptrF
  cases hg : getF fs s with
  | none =>
    rw [hg] at hv
    rw [hrun, rP_none hv rfl]
    rfl
  | some f =>
    rw [hg] at hv
    rw [hrun, rP_inv hv rfl]
    rfl
theorem OwnF.tight {w : World} {b n : Nat} {fs : List Fl} (h : OwnF w b n fs) : OwnF w b fs.length fs := by
  obtain ⟨es, clock, hb, F, hs, hD⟩ := h
  refine ⟨es, clock, hb, F, ?_, hD⟩
  have h1 := congrArg Maps.size hD
  rw [mapD_size] at h1
  rw [h1]
  simp [Maps.size, length_sorted]
theorem OwnF.len {w : World} {b n : Nat} {fs : List Fl} (h : OwnF w b n fs) (ty : TypeId) : (Builtin.len_ #[92] ty #[.map (some b)]).run Tryz.prog w = .ok (.int .i64 fs.length) w := by
  have := World.ownsMap.len h Tryz.underlying92 ty
  rw [mapD_size] at this
  exact this
/-- A disk's state. -/
structure DS where
  off : Bool
  armed : Bool
  left : Int
  uses : Int
  room : Int
  files : List Fl
def diskCells (b : Nat) (d : DS) : Array Value := #[.bool d.off, .bool d.armed, .int .i64 d.left, .int .i64 d.uses, .int .i64 d.room, .map (some b)]
/-- A disk at block g, its map at block b. -/
structure Dk (w : World) (g b : Nat) (d : DS) : Prop where
  blk : w.heap[g]? = some (.cells (diskCells b d) 96 (0, 0))
  own : OwnF w b d.files.length d.files
  file : ∀ f ∈ d.files, w.heap[f.blk]? = some (.cells #[.string f.data, .int .i64 f.kept] 120 (0, 0))
  nodup : (d.files.map (·.blk)).Nodup
/-- A disk's blocks. -/
def foot (g b : Nat) (d : DS) (k : Nat) : Prop := k = g ∨ k = b ∨ ∃ f ∈ d.files, f.blk = k
theorem Dk.lt {w : World} {g b : Nat} {d : DS} (h : Dk w g b d) : ∀ k, foot g b d k → k < w.heap.size := by
  rintro k (rfl | rfl | ⟨f, hf, rfl⟩)
  · exact blk_lt h.blk
  · exact h.own.lt
  · exact blk_lt (h.file f hf)
theorem Dk.ne_gb {w : World} {g b : Nat} {d : DS} (h : Dk w g b d) : g ≠ b := by
  rintro rfl
  obtain ⟨es, clock, hb, _⟩ := h.own
  rw [h.blk] at hb
  cases hb
theorem Dk.ne_fb {w : World} {g b : Nat} {d : DS} (h : Dk w g b d) {f : Fl} (hf : f ∈ d.files) : f.blk ≠ b := by
  rintro rfl
  obtain ⟨es, clock, hb, _⟩ := h.own
  rw [h.file f hf] at hb
  cases hb
theorem Dk.ne_fg {w : World} {g b : Nat} {d : DS} (h : Dk w g b d) {f : Fl} (hf : f ∈ d.files) : f.blk ≠ g := by
  rintro rfl
  have hb := h.blk
  rw [h.file f hf] at hb
  injection hb with hb
  injection hb with _ hb
  exact absurd hb (by decide)
theorem Dk.same {w w1 : World} {g b : Nat} {d : DS} (h : Dk w g b d) (hk : ∀ k, foot g b d k → w1.heap[k]? = w.heap[k]?) : Dk w1 g b d := by
  refine ⟨(hk g (.inl rfl)).trans h.blk, ?_, fun f hf => (hk _ (.inr (.inr ⟨f, hf, rfl⟩))).trans (h.file f hf), h.nodup⟩
  obtain ⟨es, clock, hb, r⟩ := h.own
  exact ⟨es, clock, (hk b (.inr (.inl rfl))).trans hb, r⟩
theorem Dk.below {w w1 : World} {g b : Nat} {d : DS} (h : Dk w g b d) (hb : Below w.heap.size w w1) : Dk w1 g b d := h.same fun k hk => hb.block k (h.lt k hk)
theorem Dk.kp {w w1 : World} {g b : Nat} {d : DS} {S : Nat → Prop} (h : Dk w g b d) (hk : Kp S w w1) (hS : ∀ k, foot g b d k → ¬ S k) : Dk w1 g b d := h.same fun k hf => hk.block k (h.lt k hf) (hS k hf)
/-- The disk's own cells in the disk's block. -/
theorem Dk.cell {w : World} {g b : Nat} {d : DS} (h : Dk w g b d) (i : Nat) : w.cell? ⟨g, i, none⟩ = (diskCells b d)[i]? := blk_cell h.blk i
theorem Dk.frozen {w : World} {g b : Nat} {d : DS} (h : Dk w g b d) (i : Nat) : w.frozen? ⟨g, i, none⟩ = false := blk_frozen h.blk i
theorem Dk.set {w : World} {g b : Nat} {d d1 : DS} (h : Dk w g b d) (i : Nat) (v : Value) (hv : (diskCells b d).setIfInBounds i v = diskCells b d1) (hf : d1.files = d.files) : Dk (w.setCell ⟨g, i, none⟩ v) g b d1 := by
  refine ⟨?_, ?_, ?_, hf ▸ h.nodup⟩
  · rw [blk_set h.blk i v, hv]
  · rw [hf]
    exact World.ownsMap.setCell h.own (fun e => h.ne_gb e.symm) v
  · rw [hf]
    intro f hm
    exact blk_far (h.file f hm) (h.ne_fg hm) v
/-- From d to d1 the disk's own blocks alone turn; new ones may come. -/
structure Turn (w : World) (g b : Nat) (d d1 : DS) (w1 : World) : Prop where
  dk : Dk w1 g b d1
  kp : Kp (foot g b d) w w1
  new : ∀ k, foot g b d1 k → foot g b d k ∨ w.heap.size ≤ k
theorem Turn.trans {w w1 w2 : World} {g b : Nat} {d d1 d2 : DS} (h : Turn w g b d d1 w1) (k : Turn w1 g b d1 d2 w2) : Turn w g b d d2 w2 := by
  refine ⟨k.dk, ⟨k.kp.os.trans h.kp.os, k.kp.tape.trans h.kp.tape, k.kp.output.trans h.kp.output, Nat.le_trans h.kp.size k.kp.size, fun i hi hn => (k.kp.block i (Nat.lt_of_lt_of_le hi h.kp.size) ?_).trans (h.kp.block i hi hn)⟩, fun i hi => ?_⟩
  · intro hf
    rcases h.new i hf with h1 | h1
    · exact hn h1
    · omega
  · rcases k.new i hi with h1 | h1
    · exact h.new i h1
    · exact .inr (Nat.le_trans h.kp.size h1)
theorem Turn.refl {w : World} {g b : Nat} {d : DS} (h : Dk w g b d) : Turn w g b d d w := ⟨h, Kp.refl _ _, fun _ h => .inl h⟩
theorem Turn.below {w w1 : World} {g b : Nat} {d : DS} (h : Dk w g b d) (hb : Below w.heap.size w w1) : Turn w g b d d w1 := ⟨h.below hb, Kp.of_below hb, fun _ h => .inl h⟩
theorem Turn.set {w : World} {g b : Nat} {d d1 : DS} (h : Dk w g b d) (i : Nat) (v : Value) (hv : (diskCells b d).setIfInBounds i v = diskCells b d1) (hf : d1.files = d.files) : Turn w g b d d1 (w.setCell ⟨g, i, none⟩ v) :=
  ⟨h.set i v hv hf, Kp.of_set (.inl rfl), fun k hk => .inl (by unfold foot at hk ⊢; rw [hf] at hk; exact hk)⟩
theorem Turn.lower {w w1 : World} {g b : Nat} {d d1 : DS} (h : Turn w g b d d1 w1) {B : Nat} (hB : B ≤ w.heap.size) (hF : ∀ k, foot g b d k → B ≤ k) : Below B w w1 ∧ ∀ k, foot g b d1 k → B ≤ k := by
  refine ⟨h.kp.below hB hF, fun k hk => ?_⟩
  rcases h.new k hk with h1 | h1
  · exact hF k h1
  · omega
end Go.Proofs.YtcbbdkennmopdaaGreatDoor.PK
/- disk: the power; what a use is. -/
namespace Go.Proofs.YtcbbdkennmopdaaGreatDoor.PK
open Go.RowKit Go.Proofs.YtcbbdkennmopdaaGreatDoorW.PrintWords Go.Proofs.YtcbbdkennmopdaaGreatDoorW.PrintLast Go.Proofs.YtcbbdkennmopdaaGreatDoorW.PrintMore
open Go.Maps
theorem Dk.c0 {w : World} {g b : Nat} {d : DS} (h : Dk w g b d) : w.cell? ⟨g, 0, none⟩ = some (.bool d.off) := h.cell 0
theorem Dk.c1 {w : World} {g b : Nat} {d : DS} (h : Dk w g b d) : w.cell? ⟨g, 1, none⟩ = some (.bool d.armed) := h.cell 1
theorem Dk.c2 {w : World} {g b : Nat} {d : DS} (h : Dk w g b d) : w.cell? ⟨g, 2, none⟩ = some (.int .i64 d.left) := h.cell 2
theorem Dk.c3 {w : World} {g b : Nat} {d : DS} (h : Dk w g b d) : w.cell? ⟨g, 3, none⟩ = some (.int .i64 d.uses) := h.cell 3
theorem Dk.c4 {w : World} {g b : Nat} {d : DS} (h : Dk w g b d) : w.cell? ⟨g, 4, none⟩ = some (.int .i64 d.room) := h.cell 4
theorem Dk.c5 {w : World} {g b : Nat} {d : DS} (h : Dk w g b d) : w.cell? ⟨g, 5, none⟩ = some (.map (some b)) := h.cell 5
def useD (d : DS) : DS × Bool :=
  if d.off = true then (d, false)
  else if d.armed = true ∧ d.left = 0 then ({ d with uses := d.uses + 1, off := true }, false)
  else if d.armed = true then ({ d with uses := d.uses + 1, left := d.left - 1 }, true)
  else ({ d with uses := d.uses + 1 }, true)
/-- Numbers within bounds. -/
structure Fair (d : DS) : Prop where
  uses0 : 0 ≤ d.uses
  uses1 : d.uses < 4611686018427387904
  left0 : 0 ≤ d.left
  left1 : d.left ≤ 9223372036854775807
set_option maxRecDepth 100000 in
theorem use_calls (g b : Nat) (d : DS) (w : World) (h : Dk w g b d) (hf : Fair d) :
    Calls Tryz.prog 139 #[.pointer (some ⟨g, 0, none⟩)] w fun e w' => e = .returned (.bool (useD d).2) ∧ Turn w g b d (useD d).1 w' := by
  have H := Aside0.mk h
  have h0 := h.c0
  have h1 := h.c1
  have h2 := h.c2
  have h3 := h.c3
  have f0 := h.frozen 0
  have f2 := h.frozen 2
  have f3 := h.frozen 3
  have hlt := h.lt g (.inl rfl)
  obtain ⟨u0, u1, l0, l1⟩ := hf
  clear h
  cases d with | mk off armed left uses room files =>
  simp only at *
  cases off with
  | true =>
    go_enter Tryz.func139, Tryz.ntmps139
    go_wp2
    go_ret
    exact ⟨rfl, Turn.refl H.out⟩
  | false =>
    cases armed with
    | false =>
      go_enter Tryz.func139, Tryz.ntmps139
      go_wp2
      go_ret
      exact ⟨rfl, Turn.set H.out 3 _ rfl rfl⟩
    | true =>
      by_cases hl : left = 0
      · subst hl
        go_enter Tryz.func139, Tryz.ntmps139
        go_wp2
        go_ret
        have t1 := Turn.set (d1 := ⟨false, true, 0, uses + 1, room, files⟩) H.out 3 (.int .i64 (uses + 1)) rfl rfl
        exact ⟨rfl, t1.trans (Turn.set t1.dk 0 _ rfl rfl)⟩
      · have hd : decide (left = 0) = false := by simpa using hl
        go_enter Tryz.func139, Tryz.ntmps139
        go_wp2
        go_ret
        have t1 := Turn.set (d1 := ⟨false, true, left, uses + 1, room, files⟩) H.out 3 (.int .i64 (uses + 1)) rfl rfl
        have e1 : useD ⟨false, true, left, uses, room, files⟩ = (⟨false, true, left - 1, uses + 1, room, files⟩, true) := by simp [useD, hl]
        rw [e1]
        exact ⟨rfl, t1.trans (Turn.set t1.dk 2 _ rfl rfl)⟩
end Go.Proofs.YtcbbdkennmopdaaGreatDoor.PK
/- slices.IndexFunc, ContainsFunc, DeleteFunc at texts, at a predicate that may make memory. -/
namespace Go.Proofs.YtcbbdkennmopdaaGreatDoor.PK
open Go.RowKit Go.Proofs.YtcbbdkennmopdaaGreatDoorW.PrintWords Go.Proofs.YtcbbdkennmopdaaGreatDoorW.PrintLast Go.Proofs.YtcbbdkennmopdaaGreatDoorW.PrintMore
open Go.Maps
/-- A function value that tells p of a text, in every world that I lets in. -/
structure PredI (I : World → Prop) (g : Nat) (lb : Array Value) (p : ByteArray → Bool) : Prop where
  enters : ∀ args w, (callFunc g args).run Tryz.prog w = .ok (.enter g args) w
  call : ∀ x w1, I w1 → Calls Tryz.prog g (#[.string x] ++ lb) w1 fun e w2 => e = .returned (.bool (p x)) ∧ Below w1.heap.size w1 w2
  below : ∀ w1 w2, I w1 → Below w1.heap.size w1 w2 → I w2
def IdxIs (xs : List ByteArray) (p : ByteArray → Bool) (r : Int) : Prop := (r = -1 ∧ ∀ x ∈ xs, p x = false) ∨ ∃ i : Nat, r = (i : Int) ∧ i < xs.length ∧ p (rdOf ByteArray.empty xs (i : Int)) = true ∧ ∀ j : Nat, j < i → p (rdOf ByteArray.empty xs (j : Int)) = false
def IdxPost (xs : List ByteArray) (p : ByteArray → Bool) (w : World) (e : Ending) (w' : World) : Prop := ∃ r : Int, e = .returned (.int .i64 r) ∧ IdxIs xs p r ∧ Below w.heap.size w w'
theorem rdS_at (xs : List ByteArray) (i : Nat) (h : i < xs.length) : rdOf ByteArray.empty xs (i : Int) = xs[i] := by simp [rdOf, List.getD, h]
theorem IdxIs.any {xs : List ByteArray} {p : ByteArray → Bool} {r : Int} (h : IdxIs xs p r) : decide (0 ≤ r) = xs.any p := by
  rcases h with ⟨rfl, h⟩ | ⟨i, rfl, hi, h, _⟩
  · have : xs.any p = false := by rw [List.any_eq_false]; intro x hx; rw [h x hx]; decide
    rw [this]; rfl
  · rw [rdS_at xs i hi] at h
    have : xs.any p = true := by rw [List.any_eq_true]; exact ⟨_, List.getElem_mem hi, h⟩
    rw [this, decide_eq_true (by omega)]
set_option maxHeartbeats 1000000 in
set_option maxRecDepth 100000 in
theorem index_calls (I : World → Prop) (g : Nat) (lb : Array Value) (p : ByteArray → Bool) (hp : PredI I g lb p) (A : Option Addr) (c : Nat) (xs : List ByteArray) (w : World) (hC : Kd.C Kd.string w A xs.length xs) (hI : I w) :
    Calls Tryz.prog 112 #[.slice A xs.length c, .func (.func g) #[] lb] w (IdxPost xs p w) := by
  have HC := Aside0.mk hC
  have hmax := Kd.C_max hC
  have HI := Aside0.mk hI
  have eg := hp.enters
  have HP := Aside0.mk hp
  clear hC hI hp
  obtain ⟨n, hn⟩ : ∃ n, n = xs.length := ⟨_, rfl⟩
  have HN := Aside0.mk hn
  rw [← hn] at hmax HC ⊢
  clear hn
  go_enter Tryz.func112, Tryz.ntmps112
  go_wp2
  go_loopg [5, 8] (n + 1) (fun kq _ v8 w' => ∃ k : Nat, v8 = .int .i64 k ∧ Aside0 (k + kq = n + 1) ∧ k ≤ n ∧ Aside0 (Below w.heap.size w w') ∧ Aside0 (I w') ∧ Aside0 (∀ j : Nat, j < k → p (rdOf ByteArray.empty xs (j : Int)) = false))
  case atStart => exact ⟨0, rfl, ⟨by omega⟩, Nat.zero_le _, ⟨Below.refl _ _⟩, HI, ⟨fun j hj => absurd hj (Nat.not_lt_zero _)⟩⟩
  case round =>
    clear HI
    obtain ⟨k, rfl, HK, hk, HB, HI, HJ⟩ := hrel
    cases gk with
    | zero => exact absurd HK.out (by omega)
    | succ k1 =>
      by_cases hkn : k < n
      · obtain ⟨ad, e0, hx⟩ := Kd.at_string (Kd.C_below HC.out HB.out) (k : Int) (by omega) (by omega)
        cases e0
        simp only [Int.toNat_natCast] at hx
        obtain ⟨x, hxx⟩ : ∃ x, x = rdOf ByteArray.empty xs (k : Int) := ⟨_, rfl⟩
        rw [← hxx] at hx
        have HX := Aside0.mk hxx
        clear hxx
        have HCL := Aside0.mk (HP.out.call x wr HI.out)
        cases hq : p x with
        | true =>
          go_wp2_with fail
          refine HCL.out.mono ?_
          rintro e w2 ⟨rfl, hb2⟩
          rw [hq]
          have HB2 := Aside0.mk hb2
          clear hb2
          go_wp2
          go_ret
          exact ⟨_, rfl, .inr ⟨k, rfl, by rw [← HN.out]; exact hkn, by rw [← HX.out]; exact hq, HJ.out⟩, below_step HB.out HB2.out⟩
        | false =>
          go_wp2_with fail
          refine HCL.out.mono ?_
          rintro e w2 ⟨rfl, hb2⟩
          rw [hq]
          have HB2 := Aside0.mk hb2
          clear hb2
          go_wp2
          go_roundg k1
          case measure => have := HK.out; omega
          case rel =>
            refine ⟨k + 1, by go_num, ⟨by have := HK.out; omega⟩, by omega, ⟨below_step HB.out HB2.out⟩, ⟨HP.out.below _ _ HI.out HB2.out⟩, ⟨fun j hj => ?_⟩⟩
            by_cases e : j = k
            · subst e; rw [← HX.out]; exact hq
            · exact HJ.out j (by omega)
      · have e : k = n := by omega
        subst e
        go_wp2
        go_ret
        refine ⟨_, rfl, .inl ⟨rfl, fun x hx => ?_⟩, HB.out⟩
        obtain ⟨j, hj, rfl⟩ := List.getElem_of_mem hx
        rw [← rdS_at xs j hj]
        exact HJ.out j (by rw [HN.out]; exact hj)
set_option maxRecDepth 100000 in
theorem contains_calls (I : World → Prop) (g : Nat) (lb : Array Value) (p : ByteArray → Bool) (hp : PredI I g lb p) (A : Option Addr) (c : Nat) (xs : List ByteArray) (w : World) (hC : Kd.C Kd.string w A xs.length xs) (hI : I w) :
    Calls Tryz.prog 71 #[.slice A xs.length c, .func (.func g) #[] lb] w fun e w' => e = .returned (.bool (xs.any p)) ∧ Below w.heap.size w w' := by
  have HC := Aside0.mk hC
  have HI := Aside0.mk hI
  have HP := Aside0.mk hp
  clear hC hI hp
  obtain ⟨n, hn⟩ : ∃ n, n = xs.length := ⟨_, rfl⟩
  have HN := Aside0.mk (index_calls I g lb p HP.out A c xs w HC.out HI.out)
  rw [← hn] at HN ⊢
  obtain ⟨q, hq⟩ : ∃ q, q = xs.any p := ⟨_, rfl⟩
  have HQ := Aside0.mk hq
  rw [← hq]
  clear hn hq
  go_enter Tryz.func71, Tryz.ntmps71
  go_wp2_with fail
  refine HN.out.mono ?_
  rintro e w2 ⟨r, rfl, hr, hb⟩
  have HR : Aside0 (decide (0 ≤ r) = q) := ⟨by rw [HQ.out]; exact hr.any⟩
  have HB := Aside0.mk hb
  clear hr hb
  go_wp2
  go_ret
  exact ⟨by rw [← HR.out]; rfl, HB.out⟩
end Go.Proofs.YtcbbdkennmopdaaGreatDoor.PK
/- slices.DeleteFunc at texts, at a predicate that may make memory. -/
namespace Go.Proofs.YtcbbdkennmopdaaGreatDoor.PK
open Go.RowKit Go.Proofs.YtcbbdkennmopdaaGreatDoorW.PrintWords Go.Proofs.YtcbbdkennmopdaaGreatDoorW.PrintLast Go.Proofs.YtcbbdkennmopdaaGreatDoorW.PrintMore
open Go.Maps
theorem R_spare {α : Type} {d : Kd α} {e : Nat} {W : World} {base : Nat} {ok : Nat → Prop} {g n c : Nat} {xs : List α} (h : d.R e W base ok (.slice (some ⟨g, 0, none⟩) n c) xs) (o : Nat) (news : List Value) (ho : n * d.sz ≤ o) (hfit : o + news.length ≤ c * d.sz) :
    d.R e (W.setCells g o news) base ok (.slice (some ⟨g, 0, none⟩) n c) xs ∧ W.grownBy (W.setCells g o news) (some g) := by
  obtain ⟨hok, inner, hown, hr⟩ := h
  have hn := hown.2
  rcases hown.2 with ⟨hv, _⟩ | ⟨g', cap', cur, hv, hb, hh, hle, hcm, hcs, htake⟩
  · cases hv
  injection hv with ha hn' hc
  injection ha with ha
  injection ha with hg
  subst hg; subst hc
  obtain ⟨cur', h3, h4, h5⟩ := setCells_row news o W cur hh (by rw [hcs]; exact hfit)
  obtain ⟨s1, s2, s3, s4⟩ := setCells_same g news o W
  have hfar : ∀ k', k' ≠ g → (W.setCells g o news).heap[k']? = W.heap[k']? := fun k' hk' => setCells_far news _ k' hk'
  refine ⟨⟨hok, inner, ⟨hown.1, .inr ⟨g, c, cur', by rw [hn'], hb, h3, hle, hcm, by rw [h4, hcs], ?_⟩⟩, ?_⟩, ⟨s1, s2, s3, by rw [s4]; exact Nat.le_refl _, fun k' _ hk' => hfar k' (fun he => hk' (by rw [he]))⟩⟩
  · have h7 : cur.toList.length = c * d.sz := by rw [Array.length_toList]; exact hcs
    have h8 : xs.length * d.sz ≤ o := by rw [← hn']; exact ho
    have h9 : xs.length * d.sz ≤ (cur.toList.take o).length := by rw [List.length_take, h7]; omega
    rw [h5, List.append_assoc, List.take_append_of_le_length h9, List.take_take, Nat.min_eq_left h8]
    exact htake
  · have hmv : ∀ p q, d.M W base (fun k' => ok k' ∧ some k' ≠ (Value.slice (some ⟨g, 0, none⟩) n c).ownBlock) p q → d.M (W.setCells g o news) base (fun k' => ok k' ∧ some k' ≠ (Value.slice (some ⟨g, 0, none⟩) n c).ownBlock) p q := fun p q hp =>
      d.M_move (fun k' hk' => hfar k' (fun he => hk'.2 (by simp [Value.ownBlock, he]))) hp
    exact hr.imp_ hmv
theorem R_block {α : Type} {d : Kd α} {e : Nat} {W : World} {base : Nat} {ok : Nat → Prop} {g n c : Nat} {xs : List α} (h : d.R e W base ok (.slice (some ⟨g, 0, none⟩) n c) xs) : c ≤ 9223372036854775807 ∧ ∃ cur, W.heap[g]? = some (.cells cur e (0, 0)) ∧ cur.size = c * d.sz := by
  obtain ⟨hok, inner, hown, hr⟩ := h
  rcases hown.2 with ⟨hv, _⟩ | ⟨g', cap', cur, hv, hb, hh, hle, hcm, hcs, htake⟩
  · cases hv
  injection hv with ha hn' hc
  injection ha with ha
  injection ha with hg
  subst hg; subst hc
  unfold maxLen at hcm
  exact ⟨by omega, cur, hh, hcs⟩
theorem grown_trans {w w1 w2 : World} {row : Option Nat} (h : w.grownBy w1 row) (k : w1.grownBy w2 row) : w.grownBy w2 row :=
  ⟨k.os.trans h.os, k.tape.trans h.tape, k.output.trans h.output, Nat.le_trans h.size k.size, fun i hi hn => (k.block i (Nat.lt_of_lt_of_le hi h.size) hn).trans (h.block i hi hn)⟩
def keptS (xs : List ByteArray) (p : ByteArray → Bool) (j : Nat) : List ByteArray := (xs.take j).filter fun x => !p x
/-- How far the loop is: j texts were looked at, i of them stay. -/
structure DelInv (xs cur : List ByteArray) (p : ByteArray → Bool) (i j : Nat) : Prop where
  len : cur.length = xs.length
  head : cur.take i = keptS xs p j
  tail : cur.drop j = xs.drop j
  lt : i < j
theorem keptS_yes {xs : List ByteArray} {p : ByteArray → Bool} {j : Nat} (hj : j < xs.length) (h : p xs[j] = true) : keptS xs p (j + 1) = keptS xs p j := by
  unfold keptS
  rw [List.take_succ_eq_append_getElem hj, List.filter_append]
  simp [h]
theorem keptS_no {xs : List ByteArray} {p : ByteArray → Bool} {j : Nat} (hj : j < xs.length) (h : p xs[j] = false) : keptS xs p (j + 1) = keptS xs p j ++ [xs[j]] := by
  unfold keptS
  rw [List.take_succ_eq_append_getElem hj, List.filter_append]
  simp [h]
theorem DelInv.start {xs : List ByteArray} {p : ByteArray → Bool} {i : Nat} (hi : i < xs.length) (h : p xs[i] = true) (hl : ∀ j : Nat, j < i → p (rdOf ByteArray.empty xs (j : Int)) = false) : DelInv xs xs p i (i + 1) := by
  refine ⟨rfl, ?_, rfl, Nat.lt_succ_self _⟩
  rw [keptS_yes hi h]
  unfold keptS
  refine (List.filter_eq_self.2 fun x hx => ?_).symm
  obtain ⟨j, hj, rfl⟩ := List.getElem_of_mem hx
  rw [List.length_take] at hj
  have h1 := hl j (by omega)
  rw [rdS_at xs j (by omega)] at h1
  rw [List.getElem_take, h1]
  rfl
theorem DelInv.get {xs cur : List ByteArray} {p : ByteArray → Bool} {i j : Nat} (h : DelInv xs cur p i j) (hj : j < xs.length) : rdOf ByteArray.empty cur (j : Int) = xs[j] := by
  have hl := h.len
  rw [rdS_at cur j (by omega)]
  have h1 := congrArg (fun q : List ByteArray => q[0]?) h.tail
  simp only [List.getElem?_drop, Nat.add_zero] at h1
  rw [List.getElem?_eq_getElem (by omega), List.getElem?_eq_getElem hj] at h1
  exact Option.some.inj h1
theorem DelInv.skip {xs cur : List ByteArray} {p : ByteArray → Bool} {i j : Nat} (h : DelInv xs cur p i j) (hj : j < xs.length) (hp : p xs[j] = true) : DelInv xs cur p i (j + 1) := by
  refine ⟨h.len, by rw [keptS_yes hj hp, h.head], ?_, Nat.lt_succ_of_lt h.lt⟩
  rw [← List.drop_drop, ← List.drop_drop, h.tail]
theorem DelInv.keep {xs cur : List ByteArray} {p : ByteArray → Bool} {i j : Nat} (h : DelInv xs cur p i j) (hj : j < xs.length) (hp : p xs[j] = false) : DelInv xs (cur.set i xs[j]) p (i + 1) (j + 1) := by
  have hlt := h.lt
  have hl := h.len
  refine ⟨by rw [List.length_set, h.len], ?_, ?_, by omega⟩
  · rw [keptS_no hj hp, ← h.head]
    rw [List.take_succ_eq_append_getElem (by rw [List.length_set]; omega), List.getElem_set_self, List.take_set_of_le (Nat.le_refl _)]
  · rw [List.drop_set_of_lt (by omega), ← List.drop_drop, ← List.drop_drop, h.tail]
theorem n_len {w : World} {base : Nat} {ok : Nat → Prop} {A : Option Addr} {n c : Nat} {xs : List ByteArray} (h : Kd.R Kd.string 9 w base ok (.slice A n c) xs) : Kd.R Kd.string 9 w base ok (.slice A xs.length c) xs := by
  have h1 := (Kd.R_reads' h).1
  rw [← h1]; exact h
theorem len_n {w : World} {base m : Nat} {ok : Nat → Prop} {A : Option Addr} {n c : Nat} {xs : List ByteArray} (h : Kd.R Kd.string 9 w base ok (.slice A m c) xs) (hn : m = n) : Kd.R Kd.string 9 w base ok (.slice A n c) xs := by
  rw [← hn]; exact h
set_option maxHeartbeats 2000000 in
set_option maxRecDepth 100000 in
theorem delete_calls (I : World → Prop) (g : Nat) (lb : Array Value) (p : ByteArray → Bool) (hp : PredI I g lb p) (v : Value) (base : Nat) (ok : Nat → Prop) (xs : List ByteArray) (w : World) (hR : Kd.R Kd.string 9 w base ok v xs) (hI : I w) (hrow : ∀ w1 w2, I w1 → w1.grownBy w2 v.ownBlock → I w2) :
    Calls Tryz.prog 74 #[v, .func (.func g) #[] lb] w fun e w' => ∃ v', e = .returned v' ∧ Kd.R Kd.string 9 w' base ok v' (xs.filter fun x => !p x) ∧ w.grownBy w' v.ownBlock := by
  have eg := hp.enters
  have HP := Aside0.mk hp
  have HRW := Aside0.mk hrow
  obtain ⟨A, c, rfl⟩ := Kd.R_slice hR
  have HR := Aside0.mk hR
  have HRR := Kd.R_reads' hR
  have hmax := Kd.C_max HRR.2.2
  have hnc := HRR.2.1
  obtain ⟨n, hn⟩ : ∃ n, n = xs.length := ⟨_, rfl⟩
  have HN := Aside0.mk hn
  have HIX := Aside0.mk (index_calls I g lb p hp A c xs w HRR.2.2 hI)
  have HI := Aside0.mk hI
  have H0 : Aside0 (∀ x ∈ xs, p x = false → True) := ⟨fun _ _ _ => trivial⟩
  clear hR HRR hp hI hrow H0
  rw [← hn] at HIX HR hmax hnc HRW ⊢
  clear hn
  go_enter Tryz.func74, Tryz.ntmps74
  go_wp2_with fail
  refine HIX.out.mono ?_
  rintro e w2 ⟨r, rfl, hr, hb⟩
  have HB := Aside0.mk hb
  clear hb
  rcases hr with ⟨rfl, hall⟩ | ⟨i, rfl, hi, hpi, hlt⟩
  · have HA := Aside0.mk hall
    clear hall
    go_wp2
    go_ret
    refine ⟨_, rfl, ?_, grown_of_below HB.out _⟩
    rw [List.filter_eq_self.2 (fun x hx => by rw [HA.out x hx]; rfl)]
    exact Kd.R_below HR.out HB.out
  · obtain ⟨gb, cap, hv, _, _, _⟩ := Kd.R_form HR.out (by omega)
    injection hv with hv1 hv2 hv3
    subst hv1 hv3
    clear hv2
    rw [rdS_at xs i hi] at hpi
    have HD := Aside0.mk (DelInv.start hi hpi hlt)
    have HI2 := Aside0.mk (HP.out.below _ _ HI.out HB.out)
    have HR2 := Aside0.mk (Kd.R_below HR.out HB.out)
    have HG2 := Aside0.mk (grown_of_below HB.out (some gb))
    have hin : i < n := by rw [HN.out]; exact hi
    clear hpi hlt HR HI hi HIX HB
    go_wp2_with fail
    go_loopg [5, 6, 7] (n + 1) (fun kq v5 v6 _ w' => ∃ (i j : Nat) (cur : List ByteArray), v5 = .int .i64 i ∧ v6 = .int .i64 j ∧ Aside0 (n < j + kq ∧ i < j) ∧ j ≤ n ∧ Aside0 (DelInv xs cur p i j) ∧ Aside0 (Kd.R Kd.string 9 w' base ok (.slice (some ⟨gb, 0, none⟩) n c) cur) ∧ Aside0 (w.grownBy w' (some gb)) ∧ Aside0 (I w'))
    case atStart => exact ⟨i, i + 1, xs, rfl, by go_num, ⟨by omega, by omega⟩, by omega, HD, HR2, HG2, HI2⟩
    case round =>
      clear HI2 HR2 HG2 HD hin hnc
      obtain ⟨i, j, cur, rfl, rfl, HK, hj, HD, HR, HG, HI⟩ := hrel
      have hij := HK.out.2
      have hnc := (Kd.R_reads' HR.out).2.1
      have hcl := HD.out.len
      have hln := HN.out
      cases gk with
      | zero => exact absurd HK.out.1 (by omega)
      | succ k1 =>
        by_cases hjn : j < n
        · have hjx : j < xs.length := by omega
          obtain ⟨x, hx⟩ : ∃ x, x = xs[j] := ⟨_, rfl⟩
          have hcj := Kd.R_cell ByteArray.empty (n_len HR.out) (j : Int) (by omega) (by omega)
          rw [HD.out.get hjx, ← hx] at hcj
          have hci := Kd.R_cell ByteArray.empty (n_len HR.out) (i : Int) (by omega) (by omega)
          simp only [Int.toNat_natCast] at hcj hci
          obtain ⟨hcj1, _⟩ := hcj
          obtain ⟨hci1, hci2⟩ := hci
          have HX := Aside0.mk hx
          have HCL := Aside0.mk (HP.out.call x wr HI.out)
          have hgl : gb < wr.heap.size := Kd.R_lt HR.out gb (by simp [Value.ownBlock])
          generalize rdOf ByteArray.empty cur (i : Int) = old at hci1
          have HN3 : Aside0 (cur.length = n) := ⟨by omega⟩
          clear hx hcl hln
          cases hq : p x with
          | true =>
            go_wp2_with fail
            refine HCL.out.mono ?_
            rintro e w3 ⟨rfl, hb3⟩
            rw [hq]
            have HB3 := Aside0.mk hb3
            clear hb3
            go_wp2
            go_roundg k1
            case measure => have := HK.out; omega
            case rel => exact ⟨i, j + 1, cur, rfl, by go_num, ⟨by have := HK.out; omega, by omega⟩, by omega, ⟨HD.out.skip (by rw [← HN.out]; exact hjn) (by rw [← HX.out]; exact hq)⟩, ⟨Kd.R_below HR.out HB3.out⟩, ⟨grown_trans HG.out (grown_of_below HB3.out _)⟩, ⟨HP.out.below _ _ HI.out HB3.out⟩⟩
          | false =>
            go_wp2_with fail
            refine HCL.out.mono ?_
            rintro e w3 ⟨rfl, hb3⟩
            rw [hq]
            have HB3 := Aside0.mk hb3
            have hd1 := (hb3.cell (p := ⟨gb, i, none⟩) hgl).trans hci1
            have hd2 := (hb3.frozen (p := ⟨gb, i, none⟩) hgl).trans hci2
            have HP3 := Aside0.mk (Kd.R_put (n_len (Kd.R_below HR.out hb3)) (i : Int) x)
            clear hb3 hci1 hci2
            go_wp2
            go_roundg k1
            case measure => have := HK.out; omega
            case rel =>
              have h3 := HP3.out
              simp only [Int.toNat_natCast] at h3
              have hk := HD.out.keep hjx (by rw [← HX.out]; exact hq)
              rw [← HX.out] at hk
              exact ⟨i + 1, j + 1, cur.set i x, by go_num, by go_num, ⟨by have := HK.out; omega, by omega⟩, by omega, ⟨hk⟩, ⟨len_n h3.1 HN3.out⟩, ⟨grown_trans (grown_trans HG.out (grown_of_below HB3.out _)) h3.2⟩, ⟨HRW.out _ _ (HP.out.below _ _ HI.out HB3.out) h3.2⟩⟩
        · obtain rfl : j = n := by omega
          have hT := Kd.R_take (n_len HR.out) (m := i) (by omega)
          have hbl := R_block HR.out
          obtain ⟨_, cb, hcb, hcs⟩ := hbl
          have hcl2 : ∀ ty, (Builtin.clear_ #[28] ty #[.slice (some ⟨gb, i, none⟩) (j - i) (c - i)]).run Tryz.prog wr = .ok (.tuple #[]) (wr.setCells gb i (List.replicate (j - i) (.string ⟨#[]⟩))) := fun ty =>
            Lib.run_clear_slice wr _ _ ty _ Tryz.underlying28 (by intro w; kernel_rfl) rfl rfl gb i (j - i) (c - i) (by omega) (fun q hq => by rw [blk_cell hcb]; rw [Array.getElem?_eq_getElem (by rw [hcs]; show i + q < c * 1; omega)]; rfl) (fun q _ => blk_frozen hcb _)
          have HS := Aside0.mk (R_spare hT i (List.replicate (j - i) (.string ⟨#[]⟩)) (by show i * 1 ≤ i; omega) (by rw [List.length_replicate]; show i + (j - i) ≤ c * 1; omega))
          have hne : ¬ c = i := by omega
          have hic : i ≤ c := by omega
          have hin : i ≤ j := by omega
          have HE : Aside0 (cur.take i = xs.filter fun x => !p x) := ⟨by rw [HD.out.head]; unfold keptS; rw [List.take_of_length_le (by omega)]⟩
          clear hT hcb hcs hcl hln
          go_wp2
          go_ret
          refine ⟨_, rfl, ?_, grown_trans HG.out HS.out.2⟩
          rw [← HE.out]
          exact HS.out.1
end Go.Proofs.YtcbbdkennmopdaaGreatDoor.PK
/- disk: New, On, Uses, Arm, begin, Read, Kept. -/
namespace Go.Proofs.YtcbbdkennmopdaaGreatDoor.PK
open Go.RowKit Go.Proofs.YtcbbdkennmopdaaGreatDoorW.PrintWords Go.Proofs.YtcbbdkennmopdaaGreatDoorW.PrintLast Go.Proofs.YtcbbdkennmopdaaGreatDoorW.PrintMore
open Go.Maps
def mayN (s : ByteArray) : Bool := decide (0 < s.size) && decide (s.size ≤ 20)
theorem toList_size (s : ByteArray) : s.data.toList.length = s.size := by rw [Array.length_toList]; rfl
theorem alloc_size (w : World) (o : Obj) : (w.alloc o).heap.size = w.heap.size + 1 := by show (w.heap.push _).size = _; rw [Array.size_push]
theorem blk_new2 (w : World) (o1 o2 : Obj) : ((w.alloc o1).alloc o2).heap[w.heap.size + 1]? = some o2 := by
  have h := blk_new (w.alloc o1) o2
  rw [alloc_size] at h
  exact h
theorem pow_On_calls (g b : Nat) (d : DS) (w : World) (h : Dk w g b d) : Calls Tryz.prog 106 #[.pointer (some ⟨g, 0, none⟩)] w fun e w' => e = .returned (.bool (!d.off)) ∧ w = w' := by
  have h0 := h.c0
  clear h
  go_enter Tryz.func106, Tryz.ntmps106
  go_wp2
  go_ret
  exact ⟨rfl, rfl⟩
theorem On_calls (g b : Nat) (d : DS) (w : World) (h : Dk w g b d) : Calls Tryz.prog 51 #[.pointer (some ⟨g, 0, none⟩)] w fun e w' => e = .returned (.bool (!d.off)) ∧ w = w' := by
  have H := Aside0.mk h
  clear h
  go_enter Tryz.func51, Tryz.ntmps51
  go_wp2_with fail
  refine (pow_On_calls g b d w H.out).mono ?_
  rintro e w' ⟨rfl, rfl⟩
  go_wp2
  go_ret
  exact ⟨rfl, rfl⟩
/-- Armed. -/
def armD (d : DS) (n : Int) : DS := { d with armed := true, left := max n 0 }
set_option maxRecDepth 100000 in
theorem pow_Arm_calls (g b : Nat) (d : DS) (n : Int) (w : World) (h : Dk w g b d) : Calls Tryz.prog 80 #[.pointer (some ⟨g, 0, none⟩), .int .i64 n] w fun e w' => e = .returned (.tuple #[]) ∧ Turn w g b d (armD d n) w' := by
  have h1 := h.c1
  have h2 := h.c2
  have f1 := h.frozen 1
  have f2 := h.frozen 2
  have hlt := h.lt g (.inl rfl)
  have H := Aside0.mk h
  clear h
  cases d with | mk off armed left uses room files =>
  simp only at *
  have t1 := Turn.set (d1 := ⟨off, true, left, uses, room, files⟩) H.out 1 (.bool true) rfl rfl
  have T2 := Aside0.mk (t1.trans (Turn.set (d1 := ⟨off, true, max n 0, uses, room, files⟩) t1.dk 2 (.int .i64 (max n 0)) rfl rfl))
  clear t1
  go_enter Tryz.func80, Tryz.ntmps80
  go_wp2
  go_end0
  exact ⟨rfl, T2.out⟩
theorem Arm_calls (g b : Nat) (d : DS) (n : Int) (w : World) (h : Dk w g b d) : Calls Tryz.prog 19 #[.pointer (some ⟨g, 0, none⟩), .int .i64 n] w fun e w' => e = .returned (.tuple #[]) ∧ Turn w g b d (armD d n) w' := by
  have H := Aside0.mk h
  clear h
  go_enter Tryz.func19, Tryz.ntmps19
  go_wp2_with fail
  refine (pow_Arm_calls g b d n w H.out).mono ?_
  rintro e w' ⟨rfl, ht⟩
  have HT := Aside0.mk ht
  clear ht
  go_wp2
  go_end0
  exact ⟨rfl, HT.out⟩
def newD (room : Int) : DS := ⟨false, false, 0, 0, room, []⟩
set_option maxRecDepth 100000 in
theorem New_calls (room : Int) (w : World) (h0 : 0 ≤ room) (h1 : room ≤ 16777216) : Calls Tryz.prog 13 #[.int .i64 room] w fun e w' => e = .returned (.pointer (some ⟨w.heap.size + 1, 0, none⟩)) ∧ Dk w' (w.heap.size + 1) w.heap.size (newD room) ∧ Below w.heap.size w w' := by
  have hmm := @run_makeMap Tryz.prog
  go_enter Tryz.func13, Tryz.ntmps13
  go_wp2
  go_ret
  refine ⟨rfl, ⟨blk_new2 _ _ _, ?_, fun f hf => by simp [newD] at hf, List.nodup_nil⟩, below_alloc (below_alloc (Below.refl _ _) _) _⟩
  exact (World.ownsMap_made w Tryz.prog 9 rP).alloc _
theorem toList_nil {s : ByteArray} : s.toList = [] ↔ s.size = 0 := by
  rw [ByteArray.toList_eq, ← toList_size]
  exact ⟨fun h => by rw [h]; rfl, fun h => List.length_eq_zero_iff.1 h⟩
theorem may_calls (s : ByteArray) (w : World) : Calls Tryz.prog 84 #[.string s] w fun e w' => e = .returned (.bool (mayN s)) ∧ w = w' := by
  by_cases h0 : s.size = 0
  · have e1 := toList_nil.2 h0
    have HM : Aside0 (mayN s = false) := ⟨by simp [mayN, h0]⟩
    clear h0
    go_enter Tryz.func84, Tryz.ntmps84
    go_wp2
    go_ret
    exact ⟨by rw [HM.out]; rfl, rfl⟩
  · have e1 : ¬ s.toList = [] := fun e => h0 (toList_nil.1 e)
    have e2 : s.toList.isEmpty = false := by simpa using e1
    have HM : Aside0 (mayN s = decide ((s.size : Int) ≤ 20)) := ⟨by unfold mayN; rw [decide_eq_true (by omega), Bool.true_and]; exact decide_eq_decide.2 (by omega)⟩
    clear h0
    go_enter Tryz.func84, Tryz.ntmps84
    go_wp2
    go_ret
    exact ⟨by rw [HM.out]; rfl, rfl⟩
theorem may1_calls (s : ByteArray) (w : World) : Calls Tryz.prog 140 #[.string s] w fun e w' => e = .returned (.bool (!mayN s)) ∧ Below w.heap.size w w' := by
  have HM := Aside0.mk (may_calls s w)
  generalize mayN s = q at HM ⊢
  go_enter Tryz.func140, Tryz.ntmps140
  go_wp2_with fail
  refine HM.out.mono ?_
  rintro e w' ⟨rfl, rfl⟩
  go_wp2
  go_ret
  exact ⟨rfl, Below.refl _ _⟩
theorem may1_pred : PredI (fun _ => True) 140 #[] (fun s => !mayN s) :=
  ⟨enters_ Tryz.func140 (by kernel_rfl) rfl, fun x w1 _ => may1_calls x w1, fun _ _ _ _ => trivial⟩
/-- Texts in a row live on where their block doesn't turn. -/
theorem strC_kp {S : Nat → Prop} {w w' : World} {A : Option Addr} {xs : List ByteArray} (h : Kd.C Kd.string w A xs.length xs) (hk : Kp S w w') (hA : ∀ ad, A = some ad → 0 < xs.length → ¬ S ad.block) : Kd.C Kd.string w' A xs.length xs := by
  refine Kd.C_of_reads (d := ByteArray.empty) ?_
  have hr := Kd.reads_of_C (d := ByteArray.empty) h
  refine ⟨hr.1, hr.2.1, fun hn => ?_⟩
  obtain ⟨ad, rfl, hc⟩ := hr.2.2 hn
  refine ⟨ad, rfl, fun j hj => ?_⟩
  have h1 := hc j hj
  have hlt := World.block_lt_of_cell? w _ h1
  have hbl : (ad.add j).block = ad.block := by unfold Addr.add; split <;> rfl
  rw [hbl] at hlt
  have hs := hk.block ad.block hlt (hA ad rfl hn)
  rw [← h1]
  unfold World.cell?
  rw [hbl, hs]
def beginD (d : DS) (names : List ByteArray) : DS × Int := ((useD d).1, if (useD d).2 = true then (if names.any (fun s => !mayN s) = true then 1 else 0) else 7)
theorem useD_files (d : DS) : (useD d).1.files = d.files := by
  unfold useD
  split
  · rfl
  · split
    · rfl
    · split <;> rfl
set_option maxRecDepth 100000 in
theorem begin_calls (g b : Nat) (d : DS) (A : Option Addr) (c : Nat) (names : List ByteArray) (w : World) (h : Dk w g b d) (hf : Fair d) (hC : Kd.C Kd.string w A names.length names) (hA : ∀ ad, A = some ad → 0 < names.length → ¬ foot g b d ad.block) :
    Calls Tryz.prog 108 #[.pointer (some ⟨g, 0, none⟩), .slice A names.length c] w fun e w' => e = .returned (.int .i64 (beginD d names).2) ∧ Turn w g b d (beginD d names).1 w' := by
  have H := Aside0.mk h
  have HF := Aside0.mk hf
  have HC := Aside0.mk hC
  have HA := Aside0.mk hA
  obtain ⟨n, hn⟩ : ∃ n, n = names.length := ⟨_, rfl⟩
  have HN := Aside0.mk hn
  rw [← hn]
  obtain ⟨q, hq⟩ : ∃ q, q = (useD d).2 := ⟨_, rfl⟩
  obtain ⟨r, hr⟩ : ∃ r, r = (beginD d names).2 := ⟨_, rfl⟩
  have HQ := Aside0.mk hq
  have HR := Aside0.mk hr
  rw [← hr]
  clear h hf hC hA hn hq hr
  go_enter Tryz.func108, Tryz.ntmps108
  go_wp2_with fail
  refine (use_calls g b d w H.out HF.out).mono ?_
  rintro e w1 ⟨rfl, ht⟩
  rw [← HQ.out]
  have HT := Aside0.mk ht
  clear ht
  cases q with
  | false =>
    go_wp2
    go_ret
    exact ⟨by rw [HR.out]; unfold beginD; rw [← HQ.out]; rfl, HT.out⟩
  | true =>
    have HI := Aside0.mk (contains_calls (fun _ => True) _ _ _ may1_pred A c names w1 (strC_kp HC.out HT.out.kp HA.out) trivial)
    rw [← HN.out] at HI
    obtain ⟨z, hz⟩ : ∃ z, z = names.any (fun s => !mayN s) := ⟨_, rfl⟩
    rw [← hz] at HI
    have HZ := Aside0.mk hz
    clear hz
    go_wp2_with fail
    refine HI.out.mono ?_
    rintro e w2 ⟨rfl, hb2⟩
    have HB := Aside0.mk hb2
    clear hb2
    have HX : Aside0 (r = if z = true then 1 else 0) := ⟨by rw [HR.out]; unfold beginD; rw [← HQ.out, ← HZ.out]; rfl⟩
    cases z with
    | true =>
      go_wp2
      go_ret
      exact ⟨by rw [HX.out]; rfl, HT.out.trans (Turn.below HT.out.dk HB.out)⟩
    | false =>
      go_wp2
      go_ret
      exact ⟨by rw [HX.out]; rfl, HT.out.trans (Turn.below HT.out.dk HB.out)⟩
end Go.Proofs.YtcbbdkennmopdaaGreatDoor.PK
/- Frames there and back: what was framed is opened; a frame's beginning is short. -/
namespace Go.Proofs.YtcbbdkennmopdaaGreatDoor.Crc
theorem tell_frame (d r : List UInt8) (h : d.length ≤ 65536) : tell (frame d ++ r) = d.length := by
  unfold frame head4
  rw [List.append_assoc, List.append_assoc]
  exact tell_be4 _ (by omega) _
theorem take_frame (d r : List UInt8) : (frame d ++ r).take (d.length + 12) = frame d := by
  rw [List.take_append_of_le_length (by rw [frame_length]; omega), List.take_of_length_le (by rw [frame_length]; omega)]
theorem mid_frame (d r : List UInt8) : ((frame d ++ r).drop 4).take d.length = d := by
  unfold frame head4
  rw [List.append_assoc, List.append_assoc, List.drop_append_of_le_length (by simp [be4_length]), List.drop_of_length_le (by simp [be4_length]), List.nil_append, List.take_append_of_le_length (Nat.le_refl _), List.take_of_length_le (Nat.le_refl _)]
theorem open_frame (d r : List UInt8) (h : d.length ≤ 65536) : openL (frame d ++ r) = (d, d.length + 12, 0) := by
  have ht := tell_frame d r h
  have hl : (frame d ++ r).length = d.length + 12 + r.length := by rw [List.length_append, frame_length]
  rw [openL_good _ (by omega) (by omega) (by rw [ht, mid_frame, take_frame]), ht, mid_frame]
/-- Texts in frames, one behind the other. -/
def framesL (l : List (List UInt8)) : List UInt8 := l.flatMap frame
theorem framesL_cons (d : List UInt8) (l : List (List UInt8)) : framesL (d :: l) = frame d ++ framesL l := by simp [framesL]
theorem framesL_snoc (l : List (List UInt8)) (d : List UInt8) : framesL (l ++ [d]) = framesL l ++ frame d := by simp [framesL]
theorem frame_ne (d r : List UInt8) : frame d ++ r ≠ [] := fun e => by
  have := congrArg List.length e
  rw [List.length_append, frame_length] at this
  simp at this
theorem all_frames (l : List (List UInt8)) (h : ∀ d ∈ l, d.length ≤ 65536) : allL (framesL l) = (l, (framesL l).length, 0) := by
  induction l with
  | nil => rfl
  | cons d l ih =>
    have ho := open_frame d (framesL l) (h d List.mem_cons_self)
    rw [framesL_cons, allL_step _ (frame_ne _ _) (by rw [ho]), ho]
    dsimp only
    have hd : (frame d ++ framesL l).drop (d.length + 12) = framesL l := by
      rw [List.drop_append_of_le_length (by rw [frame_length]; omega), List.drop_of_length_le (by rw [frame_length]; omega), List.nil_append]
    rw [hd, ih (fun x hx => h x (List.mem_cons_of_mem _ hx)), List.length_append, frame_length]
end Go.Proofs.YtcbbdkennmopdaaGreatDoor.Crc
/- Numbers laid as bytes, numbers as digits, a snapshot's file and its mark: plain words, no program in sight. -/
namespace Go.Proofs.YtcbbdkennmopdaaGreatDoor.Crc
/-- A number's bytes, the highest first, none nought ahead. -/
def beK : Nat → Nat → List UInt8
  | 0, _ => []
  | k + 1, n => if n = 0 then [] else beK k (n / 256) ++ [UInt8.ofNat (n % 256)]
def val (l : List UInt8) : Nat := l.foldl (fun n c => 256 * n + c.toNat) 0
theorem val_snoc (l : List UInt8) (c : UInt8) : val (l ++ [c]) = 256 * val l + c.toNat := by simp [val]
theorem beK_length : ∀ k n, (beK k n).length ≤ k
  | 0, _ => Nat.le_refl _
  | k + 1, n => by
    unfold beK
    split
    · exact Nat.zero_le _
    · have := beK_length k (n / 256)
      simp only [List.length_append, List.length_singleton]
      omega
theorem val_beK : ∀ k n, n < 256 ^ k → val (beK k n) = n
  | 0, n, h => by
    have : n = 0 := by simpa using h
    subst this; rfl
  | k + 1, n, h => by
    unfold beK
    split
    · rename_i h0; rw [h0]; rfl
    · rw [val_snoc, val_beK k (n / 256) (by rw [Nat.pow_succ] at h; exact Nat.div_lt_of_lt_mul (by omega)), UInt8.toNat_ofNat']
      omega
theorem beK_zero (k : Nat) : beK k 0 = [] := by cases k <;> rfl
theorem beK_ne (k n : Nat) (h : n ≠ 0) (hk : 0 < k) : beK k n ≠ [] := by
  cases k with
  | zero => omega
  | succ k => unfold beK; rw [if_neg h]; simp
theorem head_app (a b : List UInt8) (h : a ≠ []) : (a ++ b).head? = a.head? := by cases a with | nil => exact absurd rfl h | cons _ _ => rfl
theorem beK_head : ∀ k n, (n < 256 ^ k) → (beK k n).head? ≠ some 0
  | 0, n, _ => by simp [beK]
  | k + 1, n, hn => by
    unfold beK
    split
    · simp
    · rename_i h0
      by_cases h1 : n / 256 = 0
      · rw [h1, beK_zero]
        simp only [List.nil_append, List.head?_cons]
        intro h
        have h2 := congrArg UInt8.toNat (Option.some.inj h)
        rw [UInt8.toNat_ofNat'] at h2
        simp at h2
        omega
      · have hk : 0 < k := by
          cases k with
          | zero => exfalso; simp at hn; omega
          | succ k => omega
        have := beK_head k (n / 256) (by rw [Nat.pow_succ] at hn; exact Nat.div_lt_of_lt_mul (by omega))
        rw [head_app _ _ (beK_ne k _ h1 hk)]
        exact this
theorem list_snoc {α : Type} (l : List α) (h : l ≠ []) : ∃ a b, l = a ++ [b] := ⟨l.dropLast, l.getLast h, (List.dropLast_concat_getLast h).symm⟩
/-- A number, laid: how many bytes it has, and these. -/
def numL (n : Nat) : List UInt8 := UInt8.ofNat (beK 8 n).length :: beK 8 n
/-- A number, taken. -/
def takeNum (l : List UInt8) : Option (Nat × List UInt8) :=
  match l with
  | [] => none
  | c :: r => if c.toNat ≤ 8 ∧ c.toNat ≤ r.length ∧ (r.take c.toNat).head? ≠ some 0 then some (val (r.take c.toNat), r.drop c.toNat) else none
theorem takeNum_numL (n : Nat) (h : n < 18446744073709551616) (r : List UInt8) : takeNum (numL n ++ r) = some (n, r) := by
  have h8 := beK_length 8 n
  have hc : (UInt8.ofNat (beK 8 n).length).toNat = (beK 8 n).length := by rw [UInt8.toNat_ofNat']; omega
  unfold numL takeNum
  simp only [List.cons_append]
  rw [hc, List.take_append_of_le_length (Nat.le_refl _), List.take_of_length_le (Nat.le_refl _), List.drop_append_of_le_length (Nat.le_refl _), List.drop_of_length_le (Nat.le_refl _), List.nil_append, val_beK 8 n (by omega)]
  rw [if_pos ⟨h8, by simp, beK_head 8 n (by omega)⟩]
theorem numL_length (n : Nat) : (numL n).length ≤ 9 := by
  have := beK_length 8 n
  unfold numL
  simp only [List.length_cons]
  omega
/-- A mark's bytes, and the number that they tell. -/
def markL (n : Nat) : List UInt8 := frame (numL n)
def markNum (x : List UInt8) : Option Nat :=
  match takeNum x with
  | some (n, []) => if n ≤ 99999999 then some n else none
  | _ => none
def markedL (s : List UInt8) : Option Nat :=
  match allL s with
  | ([x], _, 0) => markNum x
  | _ => none
theorem markNum_numL (n : Nat) (h : n ≤ 99999999) : markNum (numL n) = some n := by
  unfold markNum
  have := takeNum_numL n (by omega) []
  rw [List.append_nil] at this
  rw [this]
  simp only
  rw [if_pos h]
theorem all_one (d : List UInt8) (h : d.length ≤ 65536) : allL (frame d) = ([d], (frame d).length, 0) := by
  have := all_frames [d] (by simpa using h)
  simpa [framesL] using this
theorem markedL_markL (n : Nat) (h : n ≤ 99999999) : markedL (markL n) = some n := by
  unfold markedL markL
  rw [all_one _ (by have := numL_length n; omega)]
  exact markNum_numL n h
theorem markL_length (n : Nat) : (markL n).length ≤ 21 := by
  unfold markL
  rw [frame_length]
  have := numL_length n
  omega
/-- Data, cut into pieces of 60000 bytes. -/
def cutsK : Nat → List UInt8 → List (List UInt8)
  | 0, _ => []
  | k + 1, d => if d = [] then [] else d.take 60000 :: cutsK k (d.drop 60000)
theorem cutsK_more (k : Nat) : ∀ (d : List UInt8) (m : Nat), d.length ≤ 60000 * k → k ≤ m → cutsK m d = cutsK k d := by
  induction k with
  | zero =>
    intro d m h hm
    have : d = [] := List.eq_nil_of_length_eq_zero (by omega)
    subst this
    cases m <;> rfl
  | succ k ih =>
    intro d m h hm
    obtain ⟨m, rfl⟩ : ∃ j, m = j + 1 := ⟨m - 1, by omega⟩
    unfold cutsK
    split
    · rfl
    · rw [ih (d.drop 60000) m (by rw [List.length_drop]; omega) (by omega)]
theorem cutsK_flat (k : Nat) : ∀ (d : List UInt8), d.length ≤ 60000 * k → (cutsK k d).flatten = d := by
  induction k with
  | zero =>
    intro d h
    have : d = [] := List.eq_nil_of_length_eq_zero (by omega)
    subst this; rfl
  | succ k ih =>
    intro d h
    unfold cutsK
    split
    · rename_i h0; subst h0; rfl
    · rw [List.flatten_cons, ih _ (by rw [List.length_drop]; omega), List.take_append_drop]
theorem cutsK_each (k : Nat) : ∀ (d : List UInt8), ∀ x ∈ cutsK k d, x.length ≤ 60000 := by
  induction k with
  | zero => intro d x hx; simp [cutsK] at hx
  | succ k ih =>
    intro d x hx
    unfold cutsK at hx
    split at hx
    · simp at hx
    · rcases List.mem_cons.1 hx with rfl | hx
      · rw [List.length_take]; omega
      · exact ih _ x hx
theorem cutsK_count (k : Nat) : ∀ (d : List UInt8), (cutsK k d).length ≤ k := by
  induction k with
  | zero => intro d; simp [cutsK]
  | succ k ih =>
    intro d
    unfold cutsK
    split
    · simp
    · have := ih (d.drop 60000)
      simp only [List.length_cons]
      omega
/-- All pieces: as many as there may be (and more). -/
def cutsL (d : List UInt8) : List (List UInt8) := cutsK d.length d
theorem cutsL_k (d : List UInt8) (k : Nat) (h : d.length ≤ 60000 * k) : cutsL d = cutsK k d := by
  unfold cutsL
  rcases Nat.le_total k d.length with h1 | h1
  · exact cutsK_more k d _ h h1
  · exact (cutsK_more d.length d k (by omega) h1).symm
theorem cutsL_flat (d : List UInt8) : (cutsL d).flatten = d := cutsK_flat _ d (by omega)
theorem cutsL_nil : cutsL [] = [] := rfl
theorem cutsL_step (d : List UInt8) (h : d ≠ []) : cutsL d = d.take 60000 :: cutsL (d.drop 60000) := by
  have hl : 0 < d.length := List.length_pos_iff.2 h
  rw [cutsL_k d (d.length - 1 + 1) (by omega), cutsL_k (d.drop 60000) (d.length - 1) (by rw [List.length_drop]; omega)]
  conv => lhs; unfold cutsK
  rw [if_neg h]
/-- A snapshot's bytes. -/
def fileL (n : Nat) (d : List UInt8) : List UInt8 := frame (numL n ++ numL d.length) ++ framesL (cutsL d)
/-- The data that a snapshot's bytes tell. -/
def dataL (n : Nat) (s : List UInt8) : Option (List UInt8) :=
  match allL s with
  | (_ :: l, _, 0) => if l.flatten.length ≤ 960000 ∧ fileL n l.flatten = s then some l.flatten else none
  | _ => none
theorem all_file (n : Nat) (d : List UInt8) : allL (fileL n d) = ((numL n ++ numL d.length) :: cutsL d, (fileL n d).length, 0) := by
  have h := all_frames ((numL n ++ numL d.length) :: cutsL d) (fun x hx => by
    rcases List.mem_cons.1 hx with rfl | hx
    · have h1 := numL_length n
      have h2 := numL_length d.length
      rw [List.length_append]
      omega
    · have := cutsK_each _ d x hx
      omega)
  rw [framesL_cons] at h
  exact h
theorem dataL_fileL (n : Nat) (d : List UInt8) (h : d.length ≤ 960000) : dataL n (fileL n d) = some d := by
  unfold dataL
  rw [all_file]
  simp only
  rw [cutsL_flat, if_pos ⟨h, rfl⟩]
theorem framesL_length (l : List (List UInt8)) : (framesL l).length = l.flatten.length + 12 * l.length := by
  induction l with
  | nil => rfl
  | cons d l ih => rw [framesL_cons, List.length_append, frame_length, ih, List.flatten_cons, List.length_append, List.length_cons]; omega
theorem fileL_length (n : Nat) (d : List UInt8) : (fileL n d).length ≤ d.length + 30 + 12 * (d.length / 60000 + 1) := by
  unfold fileL
  rw [List.length_append, frame_length, framesL_length, cutsL_flat, List.length_append, cutsL_k d (d.length / 60000 + 1) (by omega)]
  have h1 := numL_length n
  have h2 := numL_length d.length
  have h3 := cutsK_count (d.length / 60000 + 1) d
  omega
/-- So many digits of a number. -/
def lowD : Nat → Nat → List UInt8
  | 0, _ => []
  | k + 1, n => lowD k (n / 10) ++ [UInt8.ofNat (48 + n % 10)]
theorem lowD_length : ∀ k n, (lowD k n).length = k
  | 0, _ => rfl
  | k + 1, n => by unfold lowD; rw [List.length_append, lowD_length k]; rfl
theorem lowD_zero : ∀ k, lowD k 0 = List.replicate k 48
  | 0 => rfl
  | k + 1 => by
    unfold lowD
    rw [show 0 / 10 = 0 from rfl, lowD_zero k, List.replicate_succ']
    rfl
theorem lowD_inj : ∀ k n m, n < 10 ^ k → m < 10 ^ k → lowD k n = lowD k m → n = m
  | 0, n, m, hn, hm, _ => by simp at hn hm; omega
  | k + 1, n, m, hn, hm, h => by
    unfold lowD at h
    have h1 := List.append_inj' h rfl
    have h2 := lowD_inj k (n / 10) (m / 10) (by rw [Nat.pow_succ] at hn; exact Nat.div_lt_of_lt_mul (by omega)) (by rw [Nat.pow_succ] at hm; exact Nat.div_lt_of_lt_mul (by omega)) h1.1
    have h3 := congrArg UInt8.toNat (List.cons.inj h1.2).1
    rw [UInt8.toNat_ofNat', UInt8.toNat_ofNat'] at h3
    omega
/-- The file of a snapshot. -/
def nameL (n : Nat) : List UInt8 := [115, 46] ++ lowD 8 n
theorem nameL_length (n : Nat) : (nameL n).length = 10 := by unfold nameL; rw [List.length_append, lowD_length]; rfl
theorem nameL_inj {n m : Nat} (hn : n ≤ 99999999) (hm : m ≤ 99999999) (h : nameL n = nameL m) : n = m := lowD_inj 8 n m (by omega) (by omega) (List.append_cancel_left h)
end Go.Proofs.YtcbbdkennmopdaaGreatDoor.Crc
/- codec: a Writer in memory: lay. -/
namespace Go.Proofs.YtcbbdkennmopdaaGreatDoor.PK
open Go.RowKit Go.Proofs.YtcbbdkennmopdaaGreatDoorW.PrintWords Go.Proofs.YtcbbdkennmopdaaGreatDoorW.PrintLast Go.Proofs.YtcbbdkennmopdaaGreatDoorW.PrintMore
open Go.Maps
theorem infoB : (Tryz.prog.info? 5).map (fun i => (i.zero, i.size, i.bytes)) = some (some (.int .u8 0), 1, 1) := by kernel_rfl
/-- A writer at block k that holds bytes; nothing below w0's end is its own. -/
structure WrAt (w0 w : World) (k : Nat) (xs : List Int) : Prop where
  row : ∃ A c, w.heap[k]? = some (.cells #[.slice A xs.length c] 153 (0, 0)) ∧ Kd.R (Kd.int .u8) 5 w w0.heap.size (fun j => j ≠ k) (.slice A xs.length c) xs
  ge : w0.heap.size ≤ k
  bel : Below w0.heap.size w0 w
theorem WrAt.lt {w0 w : World} {k : Nat} {xs : List Int} (h : WrAt w0 w k xs) : k < w.heap.size := by
  obtain ⟨A, c, h1, _⟩ := h.row
  exact blk_lt h1
theorem WrAt.below {w0 w w1 : World} {k : Nat} {xs : List Int} (h : WrAt w0 w k xs) (hb : Below w.heap.size w w1) : WrAt w0 w1 k xs := by
  obtain ⟨A, c, h1, h2⟩ := h.row
  exact ⟨⟨A, c, (hb.block k (blk_lt h1)).trans h1, Kd.R_below h2 hb⟩, h.ge, below_step h.bel hb⟩
set_option maxHeartbeats 1000000 in
set_option maxRecDepth 100000 in
theorem lay1_calls (k : Nat) (xs : List Int) (n : Int) (a : Nat) (w0 w : World) (h : WrAt w0 w k xs) (hlit : Kd.C (Kd.int .u8) w (some ⟨a, 0, none⟩) 1 [n]) (hl : xs.length ≤ 1000000) :
    Calls Tryz.prog 170 #[.pointer (some ⟨k, 0, none⟩), .slice (some ⟨a, 0, none⟩) 1 1] w fun e w' => e = .returned (.tuple #[]) ∧ WrAt w0 w' k (xs ++ [n]) := by
  obtain ⟨A, c, hblk, hrow⟩ := h.row
  have hcell : w.cell? ⟨k, 0, none⟩ = some (.slice A xs.length c) := (blk_cell hblk 0).trans rfl
  have HBLK := Aside0.mk hblk
  have HROW := Aside0.mk hrow
  have HLIT := Aside0.mk hlit
  have HGE := Aside0.mk h.ge
  have HBEL := Aside0.mk h.bel
  have HLT := Aside0.mk h.lt
  clear h hblk hrow hlit
  generalize hm : xs.length = m at HBLK HROW hcell hl
  have HM := Aside0.mk hm
  clear hm
  go_enter Tryz.func170, Tryz.ntmps170
  go_wp2_with (first | ((with_reducible refine gate_builtin (b := .append) (xs := #[.tmp 8, .tmp 9]) rfl ?_); at_builtin; refine Kd.R_append_rows (Kd.int .u8) (w0 := w0) w0.heap.size rfl (.tmp 8) (.tmp 9) 25 5 (.int .u8 0) 1 rfl Tryz.underlying25 infoB rfl (by decide) (by decide) (.slice A m c) xs [n] (some ⟨a, 0, none⟩) 1 1 (fun j => j ≠ k) (fun _ => False) rfl rfl HROW.out HLIT.out (fun x cs h => h) (fun _ hk => hk.elim) (fun j hj => by have := HLT.out; omega) HBEL.out (Nat.le_trans HGE.out (Nat.le_of_lt HLT.out)) (by have := HM.out; omega) ?_; intro v1 w6 ho1 hb1 hg1 hat1; clear hat1; have hblk6 := (hg1.block k HLT.out (fun he => (HROW.out.1 k he.symm) rfl)).trans HBLK.out; have hc6 : w6.cell? ⟨k, 0, none⟩ = some (.slice A m c) := blk_cell hblk6 0; have hf6 : w6.frozen? ⟨k, 0, none⟩ = false := blk_frozen hblk6 0; obtain ⟨A1, c1, e1⟩ := Kd.R_slice ho1; subst e1; have HO1 := Aside0.mk ho1; have HB1 := Aside0.mk hb1; have HBK6 := Aside0.mk hblk6; clear ho1 hb1 hg1 hblk6) | fail)
  go_end0
  have hl1 : (xs ++ [n]).length = m + 1 := by rw [List.length_append, HM.out]; rfl
  refine ⟨rfl, ⟨A1, c1, ?_, ?_⟩, HGE.out, ?_⟩
  · rw [hl1, ← HM.out]
    exact blk_put HBK6.out 0 _ rfl
  · have h9 := Kd.R_far (p := ⟨k, 0, none⟩) HO1.out (fun j hj => hj) (Value.slice A1 (xs.length + 1) c1)
    rw [hl1, ← HM.out]
    rw [hl1, ← HM.out] at h9
    exact h9
  · exact HB1.out.setCell HGE.out _
/-- Bytes as numbers. -/
def nb (l : List UInt8) : List Int := l.map fun b => (b.toNat : Int)
theorem nb_append (a b : List UInt8) : nb (a ++ b) = nb a ++ nb b := List.map_append
theorem nb_length (a : List UInt8) : (nb a).length = a.length := List.length_map _
theorem beK_lt (k : Nat) : ∀ n j, n < 256 ^ k → j < k → (n / 256 ^ j ≠ 0 ↔ j < (Crc.beK k n).length) := by
  induction k with
  | zero => intro n j _ h; omega
  | succ k ih =>
    intro n j hn hj
    unfold Crc.beK
    split
    · rename_i h0
      subst h0
      simp
    · rename_i h0
      rw [List.length_append, List.length_singleton]
      cases j with
      | zero => simp; omega
      | succ j =>
        have := ih (n / 256) j (by rw [Nat.pow_succ] at hn; exact Nat.div_lt_of_lt_mul (by omega)) (by omega)
        rw [Nat.div_div_eq_div_mul] at this
        rw [Nat.pow_succ, Nat.mul_comm, this]
        omega
theorem beK_get (k : Nat) : ∀ n j, n < 256 ^ k → j < (Crc.beK k n).length → (Crc.beK k n)[(Crc.beK k n).length - 1 - j]? = some (UInt8.ofNat (n / 256 ^ j % 256)) := by
  induction k with
  | zero => intro n j _ h; simp [Crc.beK] at h
  | succ k ih =>
    intro n j hn hj
    unfold Crc.beK at hj ⊢
    by_cases h0 : n = 0
    · rw [if_pos h0] at hj; simp at hj
    · rw [if_neg h0] at hj ⊢
      rw [List.length_append, List.length_singleton] at hj ⊢
      cases j with
      | zero => rw [List.getElem?_append_right (by omega)]; simp
      | succ j =>
        have := ih (n / 256) j (by rw [Nat.pow_succ] at hn; exact Nat.div_lt_of_lt_mul (by omega)) (by omega)
        rw [Nat.div_div_eq_div_mul, Nat.mul_comm, ← Nat.pow_succ] at this
        rw [List.getElem?_append_left (by omega), ← this]
        congr 1
        omega
end Go.Proofs.YtcbbdkennmopdaaGreatDoor.PK
/- codec: a Writer in memory: number, Size, String. -/
namespace Go.Proofs.YtcbbdkennmopdaaGreatDoor.PK
open Go.RowKit Go.Proofs.YtcbbdkennmopdaaGreatDoorW.PrintWords Go.Proofs.YtcbbdkennmopdaaGreatDoorW.PrintLast Go.Proofs.YtcbbdkennmopdaaGreatDoorW.PrintMore
open Go.Maps
theorem byteC_blk {W : World} {b t : Nat} {l : List Int} (hb : W.heap[b]? = some (.cells (l.map (Value.int .u8)).toArray t (0, 0))) (hl : l.length ≤ 1000000) : Kd.C (Kd.int .u8) W (some ⟨b, 0, none⟩) l.length l := by
  refine Kd.C_of_reads (d := (0 : Int)) ⟨rfl, by omega, fun _ => ⟨_, rfl, fun j hj => ?_⟩⟩
  rw [add_plain, blk_cell hb]
  simp [List.getD, hj]
theorem div_pow (n j : Nat) : (n : Int) / 2 ^ (8 * j) = ((n / 256 ^ j : Nat) : Int) := by
  rw [Int.pow_mul]
  simp
set_option maxHeartbeats 2000000 in
set_option maxRecDepth 100000 in
theorem number_calls (k : Nat) (xs : List Int) (n : Nat) (w0 w : World) (h : WrAt w0 w k xs) (hn : n < 18446744073709551616) (hl : xs.length ≤ 100000) :
    Calls Tryz.prog 141 #[.pointer (some ⟨k, 0, none⟩), .int .u64 (n : Int)] w fun e w' => e = .returned (.tuple #[]) ∧ WrAt w0 w' k (xs ++ nb (Crc.numL n)) := by
  have HW := Aside0.mk h
  clear h
  obtain ⟨L, hL⟩ : ∃ L, L = (Crc.beK 8 n).length := ⟨_, rfl⟩
  have hL8 : L ≤ 8 := by rw [hL]; exact Crc.beK_length 8 n
  have HLT : Aside0 (∀ j, j < 8 → (n / 256 ^ j ≠ 0 ↔ j < L)) := ⟨fun j hj => by rw [hL]; exact beK_lt 8 n j (by omega) hj⟩
  have HGET : Aside0 (∀ j, j < L → (Crc.beK 8 n)[L - 1 - j]? = some (UInt8.ofNat (n / 256 ^ j % 256))) := ⟨fun j hj => by rw [hL] at hj ⊢; exact beK_get 8 n j (by omega) hj⟩
  have HLL := Aside0.mk hL
  clear hL
  go_enter Tryz.func141, Tryz.ntmps141
  go_wp2_with fail
  go_loopg [4] (L + 1) (fun kq v4 w' => ∃ j : Nat, v4 = .int .i64 j ∧ Aside0 (j + kq = L + 1) ∧ j ≤ L ∧ w' = w)
  case atStart => exact ⟨0, rfl, ⟨by omega⟩, Nat.zero_le _, rfl⟩
  case round =>
    obtain ⟨j, rfl, HK, hj, rfl⟩ := hrel
    by_cases hjl : j < L
    · have hj8 : (j : Int) < 8 := by omega
      have hw8 : IntKind.i64.wrap (8 * (j : Int)) = 8 * (j : Int) := by rw [IntKind.wrap_i64]; omega
      have hnz : ((n : Int) / 2 ^ (8 * j) != 0) = true := by rw [div_pow n j]; have := (HLT.out j (by omega)).2 hjl; simpa using (show ¬ (((n / 256 ^ j : Nat) : Int) = 0) by omega)
      cases gk with
      | zero => exact absurd HK.out (by omega)
      | succ k1 =>
        go_wp2_with fail
        go_roundg k1
        case measure => have := HK.out; omega
        case rel => exact ⟨j + 1, by go_num, ⟨by have := HK.out; omega⟩, by omega, rfl⟩
    · obtain rfl : j = L := by omega
      have hwu : IntKind.u8.wrap (j : Int) = (j : Int) := by rw [IntKind.wrap_u8]; omega
      have hws : IntKind.i64.wrap ((j : Int) - 1) = (j : Int) - 1 := by rw [IntKind.wrap_i64]; omega
      have hcase : ¬ ((j : Int) < 8) ∨ ((j : Int) < 8 ∧ IntKind.i64.wrap (8 * (j : Int)) = 8 * (j : Int) ∧ ((n : Int) / 2 ^ (8 * j) != 0) = false) := by
        by_cases h8 : j = 8
        · exact .inl (by omega)
        · refine .inr ⟨by omega, by rw [IntKind.wrap_i64]; omega, ?_⟩
          rw [div_pow n j]
          have := HLT.out j (by omega)
          simpa using (show (((n / 256 ^ j : Nat) : Int) = 0) by omega)
      rcases hcase with c1 | ⟨c1, c2, c3⟩
      all_goals
        go_wp2_with fail
        refine (lay1_calls k xs (j : Int) wr.heap.size w0 _ (HW.out.below (below_alloc (Below.refl _ _) _)) (byteC_blk (l := [(j : Int)]) (blk_new wr _) (by simp)) (by omega)).mono ?_
        rintro e w3 ⟨rfl, hw3⟩
        have HW3 := Aside0.mk hw3
        clear hw3
        go_wp2_with fail
        go_loopg [5] (j + 1) (fun kq v5 w' => ∃ (i : Nat) (z : Int), v5 = .int .i64 z ∧ Aside0 (z = (i : Int) - 1) ∧ Aside0 (kq = i + 1) ∧ i ≤ j ∧ Aside0 (WrAt w0 w' k (xs ++ [(j : Int)] ++ nb ((Crc.beK 8 n).take (j - i)))))
        case atStart => exact ⟨j, _, rfl, ⟨rfl⟩, ⟨rfl⟩, Nat.le_refl _, ⟨by rw [Nat.sub_self, List.take_zero]; simpa [nb] using HW3.out⟩⟩
        case round =>
          clear HW3
          obtain ⟨i, z, rfl, HZ, HKQ, hi, HW4⟩ := hrel
          cases i with
          | zero =>
            obtain rfl : z = -1 := by have := HZ.out; simpa using this
            go_wp2_with fail
            go_end0
            refine ⟨rfl, ?_⟩
            have h9 := HW4.out
            rw [Nat.sub_zero, List.take_of_length_le (by have := HLL.out; omega), List.append_assoc] at h9
            have e9 : nb (Crc.numL n) = [(j : Int)] ++ nb (Crc.beK 8 n) := by
              unfold Crc.numL nb
              rw [List.map_cons, UInt8.toNat_ofNat', ← HLL.out]
              show _ :: _ = _ :: _
              congr 1
              first | done | omega
            rw [e9]
            exact h9
          | succ i =>
            obtain rfl : z = (i : Int) := by have := HZ.out; omega
            have hge : (i : Int) ≥ 0 := by omega
            have hw8 : IntKind.i64.wrap (8 * (i : Int)) = 8 * (i : Int) := by rw [IntKind.wrap_i64]; omega
            have hwb : IntKind.u8.wrap ((n : Int) / 2 ^ (8 * i)) = ((n / 256 ^ i % 256 : Nat) : Int) := by rw [div_pow n i, IntKind.wrap_u8]; omega
            have hwi : IntKind.i64.wrap ((i : Int) - 1) = (i : Int) - 1 := by rw [IntKind.wrap_i64]; omega
            obtain ⟨k1, rfl⟩ : ∃ k1, gk = k1 + 1 := ⟨i + 1, HKQ.out⟩
            go_wp2_with fail
            refine (lay1_calls k _ ((n / 256 ^ i % 256 : Nat) : Int) wr.heap.size w0 _ (HW4.out.below (below_alloc (Below.refl _ _) _)) (byteC_blk (l := [((n / 256 ^ i % 256 : Nat) : Int)]) (blk_new wr _) (by simp)) (by
              have h1 := Crc.beK_length 8 n
              simp only [List.length_append, nb_length, List.length_take, List.length_singleton]
              omega)).mono ?_
            rintro e w5 ⟨rfl, hw5⟩
            have HW5 := Aside0.mk hw5
            clear hw5
            go_wp2_with fail
            go_roundg k1
            case measure => have := HKQ.out; omega
            case rel =>
              refine ⟨i, _, rfl, ⟨rfl⟩, ⟨by have := HKQ.out; omega⟩, by omega, ⟨?_⟩⟩
              have h9 := HW5.out
              have hg := HGET.out i (by omega)
              have hlt : j - 1 - i < (Crc.beK 8 n).length := by have := HLL.out; omega
              have e9 : (Crc.beK 8 n).take (j - i) = (Crc.beK 8 n).take (j - (i + 1)) ++ [UInt8.ofNat (n / 256 ^ i % 256)] := by
                rw [List.getElem?_eq_getElem hlt] at hg
                rw [show j - i = (j - 1 - i) + 1 by omega, List.take_succ_eq_append_getElem hlt, Option.some.inj hg, show j - (i + 1) = j - 1 - i by omega]
              rw [e9, nb_append, ← List.append_assoc]
              have e8 : nb [UInt8.ofNat (n / 256 ^ i % 256)] = [((n / 256 ^ i % 256 : Nat) : Int)] := by
                show [(((UInt8.ofNat (n / 256 ^ i % 256)).toNat : Nat) : Int)] = _
                rw [UInt8.toNat_ofNat']
                congr 2
                omega
              rw [e8]
              exact h9
end Go.Proofs.YtcbbdkennmopdaaGreatDoor.PK
/- codec: Writer.Size and String; snap: sizes. -/
namespace Go.Proofs.YtcbbdkennmopdaaGreatDoor.PK
open Go.RowKit Go.Proofs.YtcbbdkennmopdaaGreatDoorW.PrintWords Go.Proofs.YtcbbdkennmopdaaGreatDoorW.PrintLast Go.Proofs.YtcbbdkennmopdaaGreatDoorW.PrintMore
open Go.Maps
def numsL (l : List Int) : List UInt8 := l.flatMap fun n => Crc.numL n.toNat
theorem numsL_take (l : List Int) (i : Nat) (h : i < l.length) : numsL (l.take (i + 1)) = numsL (l.take i) ++ Crc.numL (rd l (i : Int)).toNat := by
  unfold numsL
  rw [List.take_succ_eq_append_getElem h, List.flatMap_append]
  have : rd l (i : Int) = l[i] := by simp [rd, List.getD, h]
  rw [this]
  simp
theorem numsL_le (l : List Int) : (numsL l).length ≤ 9 * l.length := by
  unfold numsL
  induction l with
  | nil => simp
  | cons x r ih =>
    rw [List.flatMap_cons, List.length_append, List.length_cons]
    have := Crc.numL_length x.toNat
    omega
theorem nb_str (l : List UInt8) : strOfNums (nb l) = Crc.mkB l := by
  unfold strOfNums nb Crc.mkB
  rw [List.map_map, show ((fun n : Int => UInt8.ofNat n.toNat) ∘ fun b : UInt8 => ((b.toNat : Nat) : Int)) = id from funext fun b => by simp, List.map_id]
set_option maxHeartbeats 2000000 in
set_option maxRecDepth 100000 in
theorem wsize_calls (k : Nat) (A : Option Addr) (c : Nat) (l : List Int) (w0 w : World) (h : WrAt w0 w k []) (hC : Kd.C (Kd.int .i64) w0 A l.length l) (hb : ∀ i : Nat, i < l.length → 0 ≤ rd l (i : Int) ∧ rd l (i : Int) ≤ 9223372036854775807) (hl : l.length ≤ 1000) :
    Calls Tryz.prog 110 #[.pointer (some ⟨k, 0, none⟩), .slice A l.length c] w fun e w' => e = .returned (.pointer (some ⟨k, 0, none⟩)) ∧ WrAt w0 w' k (nb (numsL l)) := by
  have HW := Aside0.mk h
  have HC := Aside0.mk hC
  have HB := Aside0.mk hb
  clear h hC hb
  obtain ⟨m, hm⟩ : ∃ m, m = l.length := ⟨_, rfl⟩
  have HM := Aside0.mk hm
  rw [← hm] at hl ⊢
  clear hm
  go_enter Tryz.func110, Tryz.ntmps110
  go_wp2_with fail
  go_loopg [9] (m + 1) (fun kq v9 w' => ∃ i : Nat, v9 = .int .i64 i ∧ Aside0 (i + kq = m + 1) ∧ i ≤ m ∧ Aside0 (WrAt w0 w' k (nb (numsL (l.take i)))))
  case atStart => exact ⟨0, rfl, ⟨by omega⟩, Nat.zero_le _, HW⟩
  case round =>
    clear HW
    obtain ⟨i, rfl, HK, hi, HW⟩ := hrel
    by_cases him : i < m
    · obtain ⟨ad, e0, hx⟩ := Kd.at_int (Kd.C_below HC.out HW.out.bel) (i : Int) (by omega) (by have := HM.out; omega)
      cases e0
      simp only [Int.toNat_natCast] at hx
      have hbb := HB.out i (by have := HM.out; omega)
      obtain ⟨x, hxx⟩ : ∃ x, x = rd l (i : Int) := ⟨_, rfl⟩
      rw [← hxx] at hx hbb
      obtain ⟨y, rfl⟩ : ∃ y : Nat, x = (y : Int) := ⟨x.toNat, by omega⟩
      have HX := Aside0.mk hxx
      have hmx : max (y : Int) 0 = (y : Int) := by omega
      have hwu : IntKind.u64.wrap (y : Int) = (y : Int) := by rw [IntKind.wrap_u64]; omega
      have hy : (y : Int) ≤ 9223372036854775807 := hbb.2
      clear hxx hbb
      cases gk with
      | zero => exact absurd HK.out (by omega)
      | succ k1 =>
        go_wp2_with fail
        refine (number_calls k _ y w0 wr HW.out (by omega) (by
          rw [nb_length]
          have h1 := numsL_le (l.take i)
          rw [List.length_take] at h1
          omega)).mono ?_
        rintro e w3 ⟨rfl, hw3⟩
        have HW3 := Aside0.mk hw3
        clear hw3
        go_wp2_with fail
        go_roundg k1
        case measure => have := HK.out; omega
        case rel =>
          refine ⟨i + 1, by go_num, ⟨by have := HK.out; omega⟩, by omega, ⟨?_⟩⟩
          have h9 := HW3.out
          rw [numsL_take l i (by have := HM.out; omega), nb_append, ← HX.out]
          exact h9
    · obtain rfl : i = m := by omega
      go_wp2
      go_ret
      refine ⟨rfl, ?_⟩
      have h9 := HW.out
      rw [List.take_of_length_le (by have := HM.out; omega)] at h9
      exact h9
set_option maxRecDepth 100000 in
theorem bytes_String_calls (k : Nat) (xs : List Int) (w0 w : World) (h : WrAt w0 w k xs) : Calls Tryz.prog 142 #[.pointer (some ⟨k, 0, none⟩)] w fun e w' => e = .returned (.string (strOfNums xs)) ∧ w = w' := by
  obtain ⟨A, c, hblk, hrow⟩ := h.row
  have hcell : w.cell? ⟨k, 0, none⟩ = some (.slice A xs.length c) := (blk_cell hblk 0).trans rfl
  have hcv := own_string (P := Tryz.prog) Tryz.underlying25 Tryz.underlying5 Tryz.underlying9 (Kd.own_of_R hrow)
  clear h hblk hrow
  generalize strOfNums xs = s at hcv
  generalize xs.length = m at hcell hcv
  go_enter Tryz.func142, Tryz.ntmps142
  go_wp2
  go_ret
  exact ⟨rfl, rfl⟩
theorem wString_calls (k : Nat) (xs : List Int) (w0 w : World) (h : WrAt w0 w k xs) : Calls Tryz.prog 111 #[.pointer (some ⟨k, 0, none⟩)] w fun e w' => e = .returned (.string (strOfNums xs)) ∧ w = w' := by
  have H := Aside0.mk h
  clear h
  go_enter Tryz.func111, Tryz.ntmps111
  go_wp2_with fail
  refine (bytes_String_calls k xs w0 w H.out).mono ?_
  rintro e w' ⟨rfl, rfl⟩
  go_wp2
  go_ret
  exact ⟨rfl, rfl⟩
set_option maxRecDepth 100000 in
theorem sizes_calls (A : Option Addr) (c : Nat) (l : List Int) (w : World) (hC : Kd.C (Kd.int .i64) w A l.length l) (hb : ∀ i : Nat, i < l.length → 0 ≤ rd l (i : Int) ∧ rd l (i : Int) ≤ 9223372036854775807) (hl : l.length ≤ 1000) :
    Calls Tryz.prog 64 #[.slice A l.length c] w fun e w' => e = .returned (.string (Crc.mkB (numsL l))) ∧ Below w.heap.size w w' := by
  have HC := Aside0.mk hC
  have HB := Aside0.mk hb
  clear hC hb
  obtain ⟨m, hm⟩ : ∃ m, m = l.length := ⟨_, rfl⟩
  have HWS : Aside0 (∀ w1, WrAt w w1 w.heap.size [] → Calls Tryz.prog 110 #[.pointer (some ⟨w.heap.size, 0, none⟩), .slice A l.length c] w1 fun e w' => e = .returned (.pointer (some ⟨w.heap.size, 0, none⟩)) ∧ WrAt w w' w.heap.size (nb (numsL l))) := ⟨fun w1 h1 => wsize_calls w.heap.size A c l w w1 h1 HC.out HB.out hl⟩
  rw [← hm] at HWS ⊢
  clear hm
  go_enter Tryz.func64, Tryz.ntmps64
  go_wp2_with fail
  refine (HWS.out _ ⟨⟨none, 0, blk_new w _, Kd.R_nil _ _ _ _ _⟩, Nat.le_refl _, below_alloc (Below.refl _ _) _⟩).mono ?_
  rintro e w1 ⟨rfl, hw1⟩
  have HW1 := Aside0.mk hw1
  clear hw1
  go_wp2_with fail
  refine (wString_calls w.heap.size _ w w1 HW1.out).mono ?_
  rintro e w2 ⟨rfl, rfl⟩
  rw [nb_str]
  go_wp2
  go_ret
  exact ⟨rfl, HW1.out.bel⟩
end Go.Proofs.YtcbbdkennmopdaaGreatDoor.PK
/- codec: a Reader in memory: Good, Fail, Len, cut, byte. -/
namespace Go.Proofs.YtcbbdkennmopdaaGreatDoor.PK
open Go.RowKit Go.Proofs.YtcbbdkennmopdaaGreatDoorW.PrintWords Go.Proofs.YtcbbdkennmopdaaGreatDoorW.PrintLast Go.Proofs.YtcbbdkennmopdaaGreatDoorW.PrintMore
open Go.Maps
/-- A reader at block k: what is to come lies elsewhere. -/
structure RdAt (w : World) (k : Nat) (l : List UInt8) (bad : Bool) : Prop where
  row : ∃ A c, w.heap[k]? = some (.cells #[.slice A l.length c, .bool bad] 184 (0, 0)) ∧ l.length ≤ c ∧ Kd.C (Kd.int .u8) w A l.length (nb l) ∧ ∀ ad, A = some ad → ad.block ≠ k
theorem RdAt.lt {w : World} {k : Nat} {l : List UInt8} {bad : Bool} (h : RdAt w k l bad) : k < w.heap.size := by
  obtain ⟨A, c, h1, _⟩ := h.row
  exact blk_lt h1
theorem byteC_kp {S : Nat → Prop} {w w' : World} {A : Option Addr} {xs : List Int} {n : Nat} (h : Kd.C (Kd.int .u8) w A n xs) (hk : Kp S w w') (hA : ∀ ad, A = some ad → 0 < n → ¬ S ad.block) : Kd.C (Kd.int .u8) w' A n xs := by
  refine Kd.C_of_reads (d := (0 : Int)) ?_
  have hr := Kd.reads_of_C (enc := Value.int .u8) (d := (0 : Int)) (h1 := fun _ => rfl) h
  refine ⟨hr.1, hr.2.1, fun h0 => ?_⟩
  obtain ⟨ad, e, hc⟩ := hr.2.2 h0
  refine ⟨ad, e, fun j hj => ?_⟩
  have h9 := hc j hj
  have hlt : (ad.add j).block < w.heap.size := World.block_lt_of_cell? w _ h9
  rw [← h9]
  unfold World.cell?
  have hb : (ad.add j).block = ad.block := by unfold Addr.add; split <;> rfl
  rw [hk.block _ hlt (by rw [hb]; exact hA ad e h0)]
set_option maxRecDepth 100000 in
theorem rGood_calls (k : Nat) (l : List UInt8) (bad : Bool) (w : World) (h : RdAt w k l bad) : Calls Tryz.prog 147 #[.pointer (some ⟨k, 0, none⟩)] w fun e w' => e = .returned (.bool (!bad)) ∧ w = w' := by
  obtain ⟨A, c, hb, _⟩ := h.row
  have h1 : w.cell? ⟨k, 1, none⟩ = some (.bool bad) := blk_cell hb 1
  clear h hb
  go_enter Tryz.func147, Tryz.ntmps147
  go_wp2
  go_ret
  exact ⟨rfl, rfl⟩
set_option maxRecDepth 100000 in
theorem rFail_calls (k : Nat) (l : List UInt8) (bad : Bool) (w : World) (h : RdAt w k l bad) : Calls Tryz.prog 148 #[.pointer (some ⟨k, 0, none⟩)] w fun e w' => e = .returned (.tuple #[]) ∧ RdAt w' k [] true ∧ Kp (fun j => j = k) w w' := by
  obtain ⟨A, c, hb, _⟩ := h.row
  have h0 : w.cell? ⟨k, 0, none⟩ = some (.slice A l.length c) := blk_cell hb 0
  have h1 : w.cell? ⟨k, 1, none⟩ = some (.bool bad) := blk_cell hb 1
  have f0 : w.frozen? ⟨k, 0, none⟩ = false := blk_frozen hb 0
  have f1 : w.frozen? ⟨k, 1, none⟩ = false := blk_frozen hb 1
  have HB := Aside0.mk hb
  clear h hb
  go_enter Tryz.func148, Tryz.ntmps148
  go_wp2
  go_end0
  have b1 := blk_set HB.out 1 (.bool true)
  have b2 := blk_put b1 0 (.slice none 0 0) rfl
  refine ⟨rfl, ⟨none, 0, b2, Nat.le_refl _, ?_, fun ad e => by cases e⟩, (Kp.of_set (S := fun j => j = k) rfl).trans (Kp.of_set (S := fun j => j = k) rfl)⟩
  exact Kd.C_of_reads (d := (0 : Int)) ⟨rfl, Nat.zero_le _, fun h => absurd h (Nat.lt_irrefl _)⟩
set_option maxRecDepth 100000 in
theorem bLen_calls (k : Nat) (l : List UInt8) (bad : Bool) (w : World) (h : RdAt w k l bad) : Calls Tryz.prog 184 #[.pointer (some ⟨k, 0, none⟩)] w fun e w' => e = .returned (.int .i64 (l.length : Nat)) ∧ w = w' := by
  obtain ⟨A, c, hb, _⟩ := h.row
  have h0 : w.cell? ⟨k, 0, none⟩ = some (.slice A l.length c) := blk_cell hb 0
  clear h hb
  generalize l.length = n at h0 ⊢
  go_enter Tryz.func184, Tryz.ntmps184
  go_wp2
  go_ret
  exact ⟨rfl, rfl⟩
theorem rLen_calls (k : Nat) (l : List UInt8) (bad : Bool) (w : World) (h : RdAt w k l bad) : Calls Tryz.prog 149 #[.pointer (some ⟨k, 0, none⟩)] w fun e w' => e = .returned (.int .i64 (l.length : Nat)) ∧ w = w' := by
  have H := Aside0.mk (bLen_calls k l bad w h)
  clear h
  generalize l.length = n at H ⊢
  go_enter Tryz.func149, Tryz.ntmps149
  go_wp2_with fail
  refine H.out.mono ?_
  rintro e w' ⟨rfl, rfl⟩
  go_wp2
  go_ret
  exact ⟨rfl, rfl⟩
set_option maxRecDepth 100000 in
theorem rEnd_calls (k : Nat) (l : List UInt8) (bad : Bool) (w : World) (h : RdAt w k l bad) : Calls Tryz.prog 119 #[.pointer (some ⟨k, 0, none⟩)] w fun e w' => e = .returned (.bool (!bad && decide (l.length = 0))) ∧ w = w' := by
  have H1 := Aside0.mk (rGood_calls k l bad w h)
  have H2 := Aside0.mk (rLen_calls k l bad w h)
  clear h
  generalize l.length = n at H2 ⊢
  cases bad with
  | true =>
    go_enter Tryz.func119, Tryz.ntmps119
    go_wp2_with fail
    refine H1.out.mono ?_
    rintro e w' ⟨rfl, rfl⟩
    go_wp2_with fail
    go_ret
    exact ⟨rfl, rfl⟩
  | false =>
    go_enter Tryz.func119, Tryz.ntmps119
    go_wp2_with fail
    refine H1.out.mono ?_
    rintro e w' ⟨rfl, rfl⟩
    go_wp2_with fail
    refine H2.out.mono ?_
    rintro e w' ⟨rfl, rfl⟩
    go_wp2_with fail
    go_ret
    exact ⟨by by_cases h : n = 0 <;> simp [h], rfl⟩
set_option maxHeartbeats 1000000 in
set_option maxRecDepth 100000 in
theorem rCutNo_calls (k : Nat) (l : List UInt8) (bad : Bool) (n : Nat) (w : World) (h : RdAt w k l bad) (hn : bad = true ∨ l.length < n) : Calls Tryz.prog 183 #[.pointer (some ⟨k, 0, none⟩), .int .i64 (n : Int)] w fun e w' => e = .returned (.slice none 0 0) ∧ RdAt w' k [] true ∧ Kp (fun j => j = k) w w' := by
  have H1 := Aside0.mk (rGood_calls k l bad w h)
  have H2 := Aside0.mk (rFail_calls k l bad w h)
  obtain ⟨A, c, hb, _⟩ := h.row
  have h0 : w.cell? ⟨k, 0, none⟩ = some (.slice A l.length c) := blk_cell hb 0
  clear h hb
  generalize l.length = m at h0 hn
  cases bad with
  | true =>
    clear hn
    go_enter Tryz.func183, Tryz.ntmps183
    go_wp2_with fail
    refine H1.out.mono ?_
    rintro e w' ⟨rfl, rfl⟩
    go_wp2_with fail
    refine H2.out.mono ?_
    rintro e w' ⟨rfl, hr, hk⟩
    have HR := Aside0.mk hr
    have HK := Aside0.mk hk
    clear hr hk
    go_wp2_with fail
    go_ret
    exact ⟨rfl, HR.out, HK.out⟩
  | false =>
    have hgt : (n : Int) > (m : Int) := by have h9 := hn.resolve_left (by decide); omega
    clear hn
    go_enter Tryz.func183, Tryz.ntmps183
    go_wp2_with fail
    refine H1.out.mono ?_
    rintro e w' ⟨rfl, rfl⟩
    go_wp2_with fail
    refine H2.out.mono ?_
    rintro e w' ⟨rfl, hr, hk⟩
    have HR := Aside0.mk hr
    have HK := Aside0.mk hk
    clear hr hk
    go_wp2_with fail
    go_ret
    exact ⟨rfl, HR.out, HK.out⟩
end Go.Proofs.YtcbbdkennmopdaaGreatDoor.PK
/- codec: a Reader: cut. -/
namespace Go.Proofs.YtcbbdkennmopdaaGreatDoor.PK
open Go.RowKit Go.Proofs.YtcbbdkennmopdaaGreatDoorW.PrintWords Go.Proofs.YtcbbdkennmopdaaGreatDoorW.PrintLast Go.Proofs.YtcbbdkennmopdaaGreatDoorW.PrintMore
open Go.Maps
set_option maxHeartbeats 1000000 in
set_option maxRecDepth 100000 in
theorem rCut_calls (k : Nat) (l : List UInt8) (n : Nat) (w : World) (h : RdAt w k l false) (hn : n ≤ l.length) : Calls Tryz.prog 183 #[.pointer (some ⟨k, 0, none⟩), .int .i64 (n : Int)] w fun e w' => ∃ A c, e = .returned (.slice A n c) ∧ n ≤ c ∧ Kd.C (Kd.int .u8) w' A n (nb (l.take n)) ∧ (0 < n → A ≠ none) ∧ RdAt w' k (l.drop n) false ∧ Kp (fun j => j = k) w w' := by
  have H1 := Aside0.mk (rGood_calls k l false w h)
  obtain ⟨A, c, hb, hlc, hC, hne⟩ := h.row
  have h0 : w.cell? ⟨k, 0, none⟩ = some (.slice A l.length c) := blk_cell hb 0
  have f0 : w.frozen? ⟨k, 0, none⟩ = false := blk_frozen hb 0
  have HB := Aside0.mk hb
  have HC := Aside0.mk hC
  have HNE := Aside0.mk hne
  clear h hb hC hne
  obtain ⟨m, hm⟩ : ∃ m, m = l.length := ⟨_, rfl⟩
  have HM := Aside0.mk hm
  rw [← hm] at h0 hn hlc HB HC
  clear hm
  have hng : ¬ ((n : Int) > (m : Int)) := by omega
  have HTK : Aside0 (Kd.C (Kd.int .u8) w A n (nb (l.take n))) := ⟨by
    have h9 := Kd.C_take (m := n) (by rw [nb_length, ← HM.out]; exact HC.out) (by rw [nb_length, ← HM.out]; exact hn)
    have e9 : (nb l).take n = nb (l.take n) := by unfold nb; rw [List.map_take]
    rw [e9] at h9
    have e8 : (nb (l.take n)).length = n := by rw [nb_length, List.length_take, ← HM.out]; omega
    rw [e8] at h9
    exact h9⟩
  have HDR : Aside0 (Kd.C (Kd.int .u8) w (if c = n then A else A.map (·.add n)) (m - n) (nb (l.drop n))) := ⟨by
    have h9 := Kd.C_drop (m := n) (c := c) (by rw [nb_length, ← HM.out]; exact HC.out) (by rw [nb_length, ← HM.out]; exact hn) (by rw [nb_length, ← HM.out]; exact hlc)
    have e9 : (nb l).drop n = nb (l.drop n) := by unfold nb; rw [List.map_drop]
    have e7 : n * (Kd.int .u8).sz = n := Nat.mul_one n
    rw [e9, e7] at h9
    have e8 : (nb (l.drop n)).length = m - n := by rw [nb_length, List.length_drop, ← HM.out]
    rw [e8] at h9
    exact h9⟩
  have HLD : Aside0 ((l.drop n).length = m - n) := ⟨by rw [List.length_drop, ← HM.out]⟩
  have hsome : ∀ j : Nat, j ≠ 0 → j ≤ m → A ≠ none := fun j hj hjm e => by
    obtain ⟨ad, e2, _⟩ := Kd.at_int HC.out 0 (by omega) (by omega)
    rw [e] at e2; cases e2
  cases A with
  | none =>
    have hm0 : m = 0 := by
      rcases Nat.eq_zero_or_pos m with h | h
      · exact h
      · exact absurd rfl (hsome m (by omega) (Nat.le_refl _))
    have hn0 : n = 0 := by omega
    subst hm0 hn0
    clear hsome hng
    go_enter Tryz.func183, Tryz.ntmps183
    go_wp2_with fail
    refine H1.out.mono ?_
    rintro e w' ⟨rfl, rfl⟩
    go_wp2_with fail
    go_ret
    have h9 := HDR.out
    have e9 : (if c = 0 then (none : Option Addr) else Option.map (fun x : Addr => x.add 0) none) = none := by split <;> rfl
    rw [e9] at h9
    refine ⟨none, c, rfl, Nat.zero_le _, byteC_kp HTK.out (Kp.of_set (S := fun j => j = k) rfl) (fun a e _ => by cases e), fun h => absurd h (Nat.lt_irrefl _), ⟨none, c, ?_, by rw [HLD.out]; omega, ?_, fun a e => by cases e⟩, Kp.of_set rfl⟩
    · rw [HLD.out]
      exact blk_put HB.out 0 _ rfl
    · rw [HLD.out]
      exact byteC_kp h9 (Kp.of_set (S := fun j => j = k) rfl) (fun a e _ => by cases e)
  | some ad =>
    have HS : Aside0 (0 < n → (some ad : Option Addr) ≠ none) := ⟨fun _ e => by cases e⟩
    have hadk := HNE.out ad rfl
    clear hsome
    by_cases hcn : c = n
    · subst hcn
      have hmc : m - c = 0 := by omega
      have h9 := HDR.out
      rw [if_pos rfl, hmc] at h9
      have HD9 := Aside0.mk h9
      have HL9 : Aside0 ((l.drop c).length = 0) := ⟨by rw [HLD.out, hmc]⟩
      clear h9 HDR HLD
      go_enter Tryz.func183, Tryz.ntmps183
      go_wp2_with fail
      refine H1.out.mono ?_
      rintro e w' ⟨rfl, rfl⟩
      go_wp2_with fail
      go_ret
      refine ⟨some ad, c, rfl, Nat.le_refl _, byteC_kp HTK.out (Kp.of_set (S := fun j => j = k) rfl) (fun a e _ => by cases e; exact hadk), HS.out, ⟨some ad, 0, ?_, by rw [HL9.out]; exact Nat.le_refl _, ?_, fun a e => by cases e; exact hadk⟩, Kp.of_set rfl⟩
      · rw [HL9.out]
        exact blk_put HB.out 0 _ (by first | rfl | simp)
      · rw [HL9.out]
        exact byteC_kp HD9.out (Kp.of_set (S := fun j => j = k) rfl) (fun a e _ => by cases e; exact hadk)
    · go_enter Tryz.func183, Tryz.ntmps183
      go_wp2_with fail
      refine H1.out.mono ?_
      rintro e w' ⟨rfl, rfl⟩
      go_wp2_with fail
      go_ret
      have h9 := HDR.out
      rw [if_neg hcn] at h9
      have hadk2 : (ad.add n).block ≠ k := by rw [show (ad.add n).block = ad.block by unfold Addr.add; split <;> rfl]; exact hadk
      refine ⟨some ad, c, rfl, by omega, byteC_kp HTK.out (Kp.of_set (S := fun j => j = k) rfl) (fun a e _ => by cases e; exact hadk), HS.out, ⟨some (ad.add n), c - n, ?_, by rw [HLD.out]; omega, ?_, fun a e => by cases e; exact hadk2⟩, Kp.of_set rfl⟩
      · rw [HLD.out]
        exact blk_put HB.out 0 _ rfl
      · rw [HLD.out]
        exact byteC_kp h9 (Kp.of_set (S := fun j => j = k) rfl) (fun a e _ => by cases e; exact hadk2)
end Go.Proofs.YtcbbdkennmopdaaGreatDoor.PK
/- codec: a Reader: byte, number, Size, Read. -/
namespace Go.Proofs.YtcbbdkennmopdaaGreatDoor.PK
open Go.RowKit Go.Proofs.YtcbbdkennmopdaaGreatDoorW.PrintWords Go.Proofs.YtcbbdkennmopdaaGreatDoorW.PrintLast Go.Proofs.YtcbbdkennmopdaaGreatDoorW.PrintMore
open Go.Maps
theorem nb_rd (l : List UInt8) (i : Nat) (h : i < l.length) : rd (nb l) (i : Int) = ((l[i].toNat : Nat) : Int) := by
  unfold nb
  simp [rd, List.getD, h]
theorem sl_nil (w : World) (a : Option Addr) (n c : Nat) : (binOp .eql 25 (.slice a n c) (.slice none 0 0)).run Tryz.prog w = .ok (.bool a.isNone) w := by
  cases a <;> simp [Lib.run_eql_slice_nil, Tryz.underlying25]
/-- byte: the first byte, or nought and a bad reader. -/
def byteR (l : List UInt8) : Int := match l with | [] => 0 | c :: _ => ((c.toNat : Nat) : Int)
set_option maxRecDepth 100000 in
theorem rByte_calls (k : Nat) (l : List UInt8) (w : World) (h : RdAt w k l false) : Calls Tryz.prog 182 #[.pointer (some ⟨k, 0, none⟩)] w fun e w' => e = .returned (.int .i64 (byteR l)) ∧ RdAt w' k (l.drop 1) (decide (l = [])) ∧ Kp (fun j => j = k) w w' := by
  cases l with
  | nil =>
    have H := Aside0.mk (rCutNo_calls k [] false 1 w h (.inr (by simp)))
    clear h
    go_enter Tryz.func182, Tryz.ntmps182
    go_wp2_with fail
    refine H.out.mono ?_
    rintro e w' ⟨rfl, hr, hk⟩
    have HR := Aside0.mk hr
    have HK := Aside0.mk hk
    have hq := sl_nil w' none 0 0
    clear hr hk
    go_wp2_with fail
    go_ret
    exact ⟨rfl, HR.out, HK.out⟩
  | cons c r =>
    have H := Aside0.mk (rCut_calls k (c :: r) 1 w h (by simp))
    have hc := c.toNat_lt
    clear h
    go_enter Tryz.func182, Tryz.ntmps182
    go_wp2_with fail
    refine H.out.mono ?_
    rintro e w' ⟨A, cc, rfl, h1, hC, hne, hr, hk⟩
    obtain ⟨ad, rfl⟩ : ∃ ad, A = some ad := by
      cases A with
      | none => exact absurd rfl (hne (by decide))
      | some ad => exact ⟨ad, rfl⟩
    obtain ⟨ad2, e0, hx⟩ := Kd.at_int hC 0 (by decide) (by decide)
    cases e0
    have e9 : rd (nb (List.take 1 (c :: r))) 0 = ((c.toNat : Nat) : Int) := rfl
    rw [e9] at hx
    simp only [Int.toNat_zero] at hx
    have hx2 : w'.cell? ad = some (.int .u8 ((c.toNat : Nat) : Int)) := by
      have : ad.add 0 = ad := by simp [Addr.add]
      rw [this] at hx
      exact hx
    have HR := Aside0.mk hr
    have HK := Aside0.mk hk
    have hw : IntKind.i64.wrap ((c.toNat : Nat) : Int) = ((c.toNat : Nat) : Int) := by rw [IntKind.wrap_i64]; omega
    have hq := sl_nil w' (some ad) 1 cc
    clear hr hk hC hne e9
    go_wp2_with fail
    go_ret
    exact ⟨rfl, HR.out, HK.out⟩
theorem val_lt : ∀ (k : Nat) (l : List UInt8), l.length ≤ k → Crc.val l < 256 ^ k
  | 0, l, h => by
    have : l = [] := List.eq_nil_of_length_eq_zero (by omega)
    subst this; decide
  | k + 1, l, h => by
    by_cases h1 : l = []
    · subst h1; exact Nat.pow_pos (by decide)
    · obtain ⟨a, b, rfl⟩ := Crc.list_snoc l h1
      have := val_lt k a (by simp at h; omega)
      have hb := b.toNat_lt
      rw [Crc.val_snoc, Nat.pow_succ]
      omega
theorem val_take (l : List UInt8) (i : Nat) (h : i < l.length) : Crc.val (l.take (i + 1)) = 256 * Crc.val (l.take i) + l[i].toNat := by
  rw [List.take_succ_eq_append_getElem h, Crc.val_snoc]
/-- number: a number that is taken, or nought and a bad reader. -/
def numR (l : List UInt8) : Nat × List UInt8 × Bool := match Crc.takeNum l with | some (n, r) => (n, r, false) | none => (0, [], true)
def NumPost (k : Nat) (l : List UInt8) (w : World) (e : Ending) (w' : World) : Prop := e = .returned (.int .u64 ((numR l).1 : Nat)) ∧ RdAt w' k (numR l).2.1 (numR l).2.2 ∧ Kp (fun j => j = k) w w'
set_option maxHeartbeats 2000000 in
set_option maxRecDepth 100000 in
theorem rNumber_calls (k : Nat) (l : List UInt8) (w : World) (h : RdAt w k l false) : Calls Tryz.prog 146 #[.pointer (some ⟨k, 0, none⟩)] w (NumPost k l w) := by
  have HBY := Aside0.mk (rByte_calls k l w h)
  obtain ⟨z, hz⟩ : ∃ z, z = byteR l := ⟨_, rfl⟩
  rw [← hz] at HBY
  have HPO : Aside0 (∀ e w', e = .returned (.int .u64 ((numR l).1 : Nat)) → RdAt w' k (numR l).2.1 (numR l).2.2 → Kp (fun j => j = k) w w' → NumPost k l w e w') := ⟨fun e w' h1 h2 h3 => ⟨h1, h2, h3⟩⟩
  cases l with
  | nil =>
    obtain rfl : z = 0 := hz
    have HN : Aside0 (numR [] = (0, [], true)) := ⟨rfl⟩
    clear h
    go_enter Tryz.func146, Tryz.ntmps146
    go_wp2_with fail
    refine HBY.out.mono ?_
    rintro e w1 ⟨rfl, hr1, hk1⟩
    have HR1 := Aside0.mk hr1
    have HK1 := Aside0.mk hk1
    clear hr1 hk1
    go_wp2_with fail
    refine (rCutNo_calls k [] true 0 w1 HR1.out (.inl rfl)).mono ?_
    rintro e w2 ⟨rfl, hr2, hk2⟩
    have HR2 := Aside0.mk hr2
    have HK2 := Aside0.mk (HK1.out.trans hk2)
    clear hr2 hk2
    go_wp2_with fail
    go_loopg [5, 30] 1 (fun kq v5 v30 w' => v5 = .int .u64 0 ∧ v30 = .int .i64 0 ∧ w' = w2)
    case atStart => exact ⟨rfl, rfl, rfl⟩
    case round =>
      obtain ⟨rfl, rfl, rfl⟩ := hrel
      go_wp2
      go_ret
      exact HPO.out _ _ (by rw [HN.out]; rfl) (by rw [HN.out]; exact HR2.out) HK2.out
  | cons c r =>
    obtain rfl : z = ((c.toNat : Nat) : Int) := hz
    have hc := c.toNat_lt
    have e0 : decide ((c :: r : List UInt8) = []) = false := by simp
    rw [e0, List.drop_succ_cons, List.drop_zero] at HBY
    clear h e0
    by_cases hbad : 8 < c.toNat ∨ r.length < c.toNat
    · have HN : Aside0 (numR (c :: r) = (0, [], true)) := ⟨by unfold numR Crc.takeNum; simp only; rw [if_neg (by rintro ⟨h1, h2, _⟩; omega)]⟩
      by_cases h8 : 8 < c.toNat
      · have hgt : ((c.toNat : Nat) : Int) > 8 := by omega
        clear hbad
        go_enter Tryz.func146, Tryz.ntmps146
        go_wp2_with fail
        refine HBY.out.mono ?_
        rintro e w1 ⟨rfl, hr1, hk1⟩
        have HR1 := Aside0.mk hr1
        have HK1 := Aside0.mk hk1
        clear hr1 hk1
        go_wp2_with fail
        refine (rFail_calls k r false w1 HR1.out).mono ?_
        rintro e w2 ⟨rfl, hr2, hk2⟩
        have HR2 := Aside0.mk hr2
        have HK2 := Aside0.mk (HK1.out.trans hk2)
        clear hr2 hk2
        go_wp2_with fail
        refine (rCutNo_calls k [] true c.toNat w2 HR2.out (.inl rfl)).mono ?_
        rintro e w3 ⟨rfl, hr3, hk3⟩
        have HR3 := Aside0.mk hr3
        have HK3 := Aside0.mk (HK2.out.trans hk3)
        clear hr3 hk3
        go_wp2_with fail
        go_loopg [5, 30] 1 (fun kq v5 v30 w' => v5 = .int .u64 0 ∧ v30 = .int .i64 0 ∧ w' = w3)
        case atStart => exact ⟨rfl, rfl, rfl⟩
        case round =>
          obtain ⟨rfl, rfl, rfl⟩ := hrel
          go_wp2
          go_ret
          exact HPO.out _ _ (by rw [HN.out]; rfl) (by rw [HN.out]; exact HR3.out) HK3.out
      · have hgt : ¬ ((c.toNat : Nat) : Int) > 8 := by omega
        have hlt := hbad.resolve_left h8
        clear hbad
        go_enter Tryz.func146, Tryz.ntmps146
        go_wp2_with fail
        refine HBY.out.mono ?_
        rintro e w1 ⟨rfl, hr1, hk1⟩
        have HR1 := Aside0.mk hr1
        have HK1 := Aside0.mk hk1
        clear hr1 hk1
        go_wp2_with fail
        refine (rCutNo_calls k r false c.toNat w1 HR1.out (.inr hlt)).mono ?_
        rintro e w3 ⟨rfl, hr3, hk3⟩
        have HR3 := Aside0.mk hr3
        have HK3 := Aside0.mk (HK1.out.trans hk3)
        clear hr3 hk3
        go_wp2_with fail
        go_loopg [5, 30] 1 (fun kq v5 v30 w' => v5 = .int .u64 0 ∧ v30 = .int .i64 0 ∧ w' = w3)
        case atStart => exact ⟨rfl, rfl, rfl⟩
        case round =>
          obtain ⟨rfl, rfl, rfl⟩ := hrel
          go_wp2
          go_ret
          exact HPO.out _ _ (by rw [HN.out]; rfl) (by rw [HN.out]; exact HR3.out) HK3.out
    · obtain ⟨m, hm⟩ : ∃ m, m = c.toNat := ⟨_, rfl⟩
      have hm8 : m ≤ 8 := by omega
      have hmr : m ≤ r.length := by omega
      have HN : Aside0 (numR (c :: r) = if (r.take m).head? ≠ some 0 then (Crc.val (r.take m), r.drop m, false) else (0, [], true)) := ⟨by
        rw [hm]
        unfold numR Crc.takeNum
        simp only
        by_cases h0 : (r.take c.toNat).head? ≠ some 0
        · rw [if_pos ⟨by omega, by omega, h0⟩, if_pos h0]
        · rw [if_neg (fun h => h0 h.2.2), if_neg h0]⟩
      rw [← hm] at HBY
      have hgt : ¬ ((m : Int) > 8) := by omega
      obtain ⟨bs, hbs⟩ : ∃ bs, bs = r.take m := ⟨_, rfl⟩
      have hbl : bs.length = m := by rw [hbs, List.length_take]; omega
      rw [← hbs] at HN
      have HCC : Aside0 (∀ w1, RdAt w1 k r false → Calls Tryz.prog 183 #[.pointer (some ⟨k, 0, none⟩), .int .i64 (m : Int)] w1 fun e w' => ∃ A c, e = .returned (.slice A m c) ∧ m ≤ c ∧ Kd.C (Kd.int .u8) w' A m (nb bs) ∧ (0 < m → A ≠ none) ∧ RdAt w' k (r.drop m) false ∧ Kp (fun j => j = k) w1 w') := ⟨fun w1 h1 => by rw [hbs]; exact rCut_calls k r m w1 h1 hmr⟩
      have HBL := Aside0.mk hbl
      clear hbad hm hbs hbl hc
      go_enter Tryz.func146, Tryz.ntmps146
      go_wp2_with fail
      refine HBY.out.mono ?_
      rintro e w1 ⟨rfl, hr1, hk1⟩
      have HR1 := Aside0.mk hr1
      have HK1 := Aside0.mk hk1
      clear hr1 hk1
      go_wp2_with fail
      refine (HCC.out w1 HR1.out).mono ?_
      rintro e w3 ⟨A, cc, rfl, hcc1, hC3, hne3, hr3, hk3⟩
      have HR3 := Aside0.mk hr3
      have HK3 := Aside0.mk (HK1.out.trans hk3)
      have HC3 := Aside0.mk hC3
      clear hr3 hk3 hC3
      by_cases h0 : bs.head? = some 0
      · have hm0 : 0 < m := by
          rcases Nat.eq_zero_or_pos m with h | h
          · have : bs = [] := List.eq_nil_of_length_eq_zero (by rw [HBL.out]; exact h)
            rw [this] at h0; cases h0
          · exact h
        obtain ⟨ad, e1, hx⟩ := Kd.at_int HC3.out 0 (by decide) (by omega)
        subst e1
        have hx2 : w3.cell? ad = some (.int .u8 0) := by
          have e8 : ad.add 0 = ad := by simp [Addr.add]
          have e9 : rd (nb bs) 0 = 0 := by
            have hb : bs[0]? = some 0 := by rw [← List.head?_eq_getElem?]; exact h0
            simp [rd, nb, List.getD, hb]
          simp only [Int.toNat_zero] at hx
          rw [e8, e9] at hx
          exact hx
        have HN2 : Aside0 (numR (c :: r) = (0, [], true)) := ⟨by rw [HN.out, if_neg (fun h => h h0)]⟩
        have hm0i : (m : Int) > 0 := by omega
        clear hx h0 hne3
        go_wp2_with fail
        refine (rFail_calls k _ false w3 HR3.out).mono ?_
        rintro e w4 ⟨rfl, hr4, hk4⟩
        have HR4 := Aside0.mk hr4
        have HK4 := Aside0.mk (HK3.out.trans hk4)
        clear hr4 hk4
        go_wp2_with fail
        go_ret
        exact HPO.out _ _ (by rw [HN2.out]; rfl) (by rw [HN2.out]; exact HR4.out) HK4.out
      · have HN2 : Aside0 (numR (c :: r) = (Crc.val bs, r.drop m, false)) := ⟨by rw [HN.out, if_pos h0]⟩
        have hcase : m = 0 ∨ (0 < m ∧ ∃ (ad : Addr) (y : Nat), A = some ad ∧ w3.cell? ad = some (.int .u8 (y : Int)) ∧ y ≠ 0) := by
          rcases Nat.eq_zero_or_pos m with h | h
          · exact .inl h
          · refine .inr ⟨h, ?_⟩
            obtain ⟨ad, e1, hx⟩ := Kd.at_int HC3.out 0 (by decide) (by omega)
            have hlt : 0 < bs.length := by rw [HBL.out]; exact h
            have e8 : ad.add 0 = ad := by simp [Addr.add]
            simp only [Int.toNat_zero] at hx
            rw [e8, show (0 : Int) = ((0 : Nat) : Int) from rfl, nb_rd bs 0 hlt] at hx
            refine ⟨ad, _, e1, hx, fun e => h0 ?_⟩
            rw [List.head?_eq_getElem?, List.getElem?_eq_getElem hlt]
            congr 1
            exact UInt8.toNat_inj.1 e
        rcases hcase with rfl | ⟨hm0, ad, y, rfl, hx, hy⟩
        · have hb0 : bs = [] := List.eq_nil_of_length_eq_zero HBL.out
          have hv : Crc.val bs = 0 := by rw [hb0]; rfl
          have HN3 : Aside0 (numR (c :: r) = (0, r.drop 0, false)) := ⟨by rw [HN2.out, hv]⟩
          clear h0 hb0 hv
          go_wp2_with fail
          go_loopg [5, 30] 1 (fun kq v5 v30 w' => v5 = .int .u64 0 ∧ v30 = .int .i64 0 ∧ w' = w3)
          case atStart => exact ⟨rfl, rfl, rfl⟩
          case round =>
            obtain ⟨rfl, rfl, rfl⟩ := hrel
            go_wp2
            go_ret
            exact HPO.out _ _ (by rw [HN3.out]; rfl) (by rw [HN3.out]; exact HR3.out) HK3.out
        · have hm0i : (m : Int) > 0 := by omega
          have hyz : ¬ ((y : Int) = 0) := by omega
          clear h0
          go_wp2_with fail
          go_loopg [5, 30] (m + 1) (fun kq v5 v30 w' => ∃ (i : Nat) (x : Nat), v5 = .int .u64 (x : Int) ∧ v30 = .int .i64 (i : Int) ∧ Aside0 (x = Crc.val (bs.take i)) ∧ Aside0 (i + kq = m + 1) ∧ i ≤ m ∧ w' = w3)
          case atStart => exact ⟨0, 0, rfl, rfl, ⟨rfl⟩, ⟨by omega⟩, Nat.zero_le _, rfl⟩
          case round =>
            obtain ⟨i, x, rfl, rfl, HX, HK, hi, rfl⟩ := hrel
            by_cases him : i < m
            · have hlt : i < bs.length := by rw [HBL.out]; exact him
              obtain ⟨ad2, e1, hx2⟩ := Kd.at_int HC3.out (i : Int) (by omega) (by omega)
              cases e1
              rw [nb_rd bs i hlt] at hx2
              simp only [Int.toNat_natCast] at hx2
              obtain ⟨q, hq⟩ : ∃ q : Nat, q = bs[i].toNat := ⟨_, rfl⟩
              have hq8 : q < 256 := by rw [hq]; exact (bs[i]).toNat_lt
              rw [← hq] at hx2
              have hxl : x < 72057594037927936 := by
                have h1 := val_lt 7 (bs.take i) (by rw [List.length_take]; omega)
                rw [← HX.out] at h1
                exact h1
              have hvt := val_take bs i hlt
              rw [← hq, ← HX.out] at hvt
              have HV := Aside0.mk hvt
              have hwq : IntKind.u64.wrap (q : Int) = (q : Int) := by rw [IntKind.wrap_u64]; omega
              have hws : IntKind.u64.wrap ((x : Int) * 256) = (x : Int) * 256 := by rw [IntKind.wrap_u64]; omega
              have hor : bits .or .u64 ((x : Int) * 256) (q : Int) = ((256 * x + q : Nat) : Int) := by
                rw [bits_join .u64 64 (by decide) (fun n h0 h1 => by rw [IntKind.wrap_u64]; omega) 8 ((x : Int) * 256) (q : Int) (by omega) (by omega) (by omega) (by omega) (by omega) (by omega)]
                omega
              clear hq hvt hx
              cases gk with
              | zero => exact absurd HK.out (by omega)
              | succ k1 =>
                go_wp2_with fail
                go_roundg k1
                case measure => have := HK.out; omega
                case rel => exact ⟨i + 1, 256 * x + q, rfl, by go_num, ⟨HV.out.symm⟩, ⟨by have := HK.out; omega⟩, by omega, rfl⟩
            · obtain rfl : i = m := by omega
              have hv : Crc.val bs = x := by rw [HX.out, List.take_of_length_le (by rw [HBL.out]; exact Nat.le_refl _)]
              have HN3 : Aside0 (numR (c :: r) = (x, r.drop i, false)) := ⟨by rw [HN2.out, hv]⟩
              clear hv
              go_wp2_with fail
              go_ret
              exact HPO.out _ _ (by rw [HN3.out]; rfl) (by rw [HN3.out]; exact HR3.out) HK3.out
end Go.Proofs.YtcbbdkennmopdaaGreatDoor.PK
/- disk: Read, Kept, Used, Free, fits, there. -/
namespace Go.Proofs.YtcbbdkennmopdaaGreatDoor.PK
open Go.RowKit Go.Proofs.YtcbbdkennmopdaaGreatDoorW.PrintWords Go.Proofs.YtcbbdkennmopdaaGreatDoorW.PrintLast Go.Proofs.YtcbbdkennmopdaaGreatDoorW.PrintMore
open Go.Maps
theorem Dk.look_some {w : World} {g b : Nat} {d : DS} {f : Fl} {name : ByteArray} (h : Dk w g b d) (hs : name.size ≤ 9223372036854775807) (hg : getF d.files name = some f) : (Instr.lookup 92 (.map (some b)) (.string name) false).run Tryz.prog w = .ok (.pointer (some ⟨f.blk, 0, none⟩)) w := by
  have := h.own.look name hs
  unfold ptrF at this
  rw [hg] at this
  exact this
theorem Dk.look_none {w : World} {g b : Nat} {d : DS} {name : ByteArray} (h : Dk w g b d) (hs : name.size ≤ 9223372036854775807) (hg : getF d.files name = none) : (Instr.lookup 92 (.map (some b)) (.string name) false).run Tryz.prog w = .ok (.pointer none) w := by
  have := h.own.look name hs
  unfold ptrF at this
  rw [hg] at this
  exact this
def readD (d : DS) (name : ByteArray) : ByteArray × Int := if d.off = true then (⟨#[]⟩, 7) else match getF d.files name with | none => (⟨#[]⟩, 8) | some f => (f.data, 0)
set_option maxRecDepth 100000 in
theorem Read_calls (g b : Nat) (d : DS) (name : ByteArray) (w : World) (h : Dk w g b d) (hs : name.size ≤ 9223372036854775807) :
    Calls Tryz.prog 26 #[.pointer (some ⟨g, 0, none⟩), .string name] w fun e w' => e = .returned (.tuple #[.string (readD d name).1, .int .i64 (readD d name).2]) ∧ w = w' := by
  have h0 := h.c0
  have h5 := h.c5
  cases ho : d.off with
  | true =>
    rw [ho] at h0
    have e1 : readD d name = (⟨#[]⟩, 7) := by simp [readD, ho]
    rw [e1]
    clear ho h e1
    go_enter Tryz.func26, Tryz.ntmps26
    go_wp2
    go_ret2
    exact ⟨rfl, rfl⟩
  | false =>
    rw [ho] at h0
    cases hg : getF d.files name with
    | none =>
      have e1 : readD d name = (⟨#[]⟩, 8) := by simp [readD, ho, hg]
      have hl := h.look_none hs hg
      rw [e1]
      clear ho h e1 hg
      go_enter Tryz.func26, Tryz.ntmps26
      go_wp2
      go_ret2
      exact ⟨rfl, rfl⟩
    | some f =>
      have e1 : readD d name = (f.data, 0) := by simp [readD, ho, hg]
      have hl := h.look_some hs hg
      have hc := blk_cell (h.file f (getF_some hg).1) 0
      simp only [List.getElem?_toArray, List.getElem?_cons_zero] at hc
      rw [e1]
      clear ho h e1 hg
      go_enter Tryz.func26, Tryz.ntmps26
      go_wp2
      go_ret2
      exact ⟨rfl, rfl⟩
end Go.Proofs.YtcbbdkennmopdaaGreatDoor.PK
/- disk: Used, Free. -/
namespace Go.Proofs.YtcbbdkennmopdaaGreatDoor.PK
open Go.RowKit Go.Proofs.YtcbbdkennmopdaaGreatDoorW.PrintWords Go.Proofs.YtcbbdkennmopdaaGreatDoorW.PrintLast Go.Proofs.YtcbbdkennmopdaaGreatDoorW.PrintMore
open Go.Maps
def usedF (fs : List Fl) : Nat := (fs.map (·.data.size)).sum
def leftSum (fs : List Fl) (left : Lit → Bool) : Nat := ((fs.filter fun f => left (keyN f.name)).map (·.data.size)).sum
theorem keyN_same (a b : ByteArray) : (keyN a).sameKey (keyN b) = sameN a b := rfl
theorem leftSum_none (fs : List Fl) (left : Lit → Bool) (h : ∀ kl, left kl = false) : leftSum fs left = 0 := by
  unfold leftSum
  rw [List.filter_eq_nil_iff.2 (fun f _ => by rw [h]; decide)]
  rfl
theorem leftSum_all (fs : List Fl) : leftSum fs (Maps.has (mapD fs)) = usedF fs := by
  unfold leftSum usedF
  rw [List.filter_eq_self.2]
  intro f hf
  show (fs.map encF).any (fun p => p.1.sameKey (keyN f.name)) = true
  rw [List.any_eq_true]
  exact ⟨encF f, List.mem_map_of_mem hf, sameN_self f.name⟩
theorem leftSum_off (fs : List Fl) (left : Lit → Bool) (s : ByteArray) (h : ∀ f ∈ fs, f.name ≠ s) : leftSum fs (fun z => left z && !z.sameKey (keyN s)) = leftSum fs left := by
  unfold leftSum
  congr 2
  refine List.filter_congr fun f hf => ?_
  show (left (keyN f.name) && !(keyN f.name).sameKey (keyN s)) = _
  rw [keyN_same, sameN_ne.2 (h f hf), Bool.not_false, Bool.and_true]
theorem leftSum_yes {y : Fl} {r : List Fl} {left : Lit → Bool} (h : left (keyN y.name) = true) : leftSum (y :: r) left = y.data.size + leftSum r left := by
  unfold leftSum
  simp [List.filter_cons, h]
theorem leftSum_no {y : Fl} {r : List Fl} {left : Lit → Bool} (h : left (keyN y.name) = false) : leftSum (y :: r) left = leftSum r left := by
  unfold leftSum
  simp [List.filter_cons, h]
theorem leftSum_step : ∀ (fs : List Fl) (left : Lit → Bool) (f : Fl), (fs.map (·.name)).Nodup → f ∈ fs → left (keyN f.name) = true → leftSum fs left = f.data.size + leftSum fs (fun z => left z && !z.sameKey (keyN f.name))
  | [], _, _, _, h, _ => by cases h
  | y :: r, left, f, hn, hm, hl => by
    rw [List.map_cons, List.nodup_cons] at hn
    rcases List.mem_cons.1 hm with rfl | hm
    · have h0 : (fun z : Lit => left z && !z.sameKey (keyN f.name)) (keyN f.name) = false := by show (left (keyN f.name) && !sameN f.name f.name) = false; rw [sameN_self]; simp
      rw [leftSum_yes hl, leftSum_no h0, leftSum_off r left f.name (fun z hz e => hn.1 (by rw [← e]; exact List.mem_map_of_mem hz))]
    · have ih := leftSum_step r left f hn.2 hm hl
      have hne : y.name ≠ f.name := fun e => hn.1 (by rw [e]; exact List.mem_map_of_mem hm)
      have h0 : (fun z : Lit => left z && !z.sameKey (keyN f.name)) (keyN y.name) = left (keyN y.name) := by show (left (keyN y.name) && !sameN y.name f.name) = _; rw [sameN_ne.2 hne, Bool.not_false, Bool.and_true]
      cases hy : left (keyN y.name) with
      | true =>
        rw [leftSum_yes hy, leftSum_yes (h0.trans hy), ih]
        omega
      | false =>
        rw [leftSum_no hy, leftSum_no (h0.trans hy), ih]
theorem key_inv (key : Value) (kl : Lit) (h : keyOf Tryz.prog 9 key = some kl) : ∃ x : ByteArray, key = .string x := by
  cases key <;> simp [keyOf, Tryz.underlying9, mapKey] at h
  exact ⟨_, rfl⟩
theorem key_inv2 {x : ByteArray} {kl : Lit} (h : keyOf Tryz.prog 9 (.string x) = some kl) : kl = keyN x := by
  simp [keyOf, Tryz.underlying9, mapKey] at h
  exact h.2.symm
theorem rP_ptr (v : Value) (y : DataW Unit × List MemPlace) (h : rP v = some y) : ∃ c : Option Addr, v = .pointer c := by
  unfold rP at h
  split at h
  · exact ⟨_, rfl⟩
  · exact ⟨_, rfl⟩
  · cases h
/-- What an entry that comes up is. -/
theorem entry_file {fs : List Fl} {x : ByteArray} {c : Option Addr} {y : DataW Unit × List MemPlace} (hv : rP (.pointer c) = some y) (hat : ∀ zd, (mapD fs).atKey (keyN x) zd = y.1) : ∃ f ∈ fs, f.name = x ∧ c = some ⟨f.blk, 0, none⟩ := by
  cases hg : getF fs x with
  | none =>
    have h1 := hat (.lit (.int .i64 1))
    have h2 := hat (.lit (.int .i64 2))
    rw [mapD_at, hg] at h1 h2
    simp only at h1 h2
    rw [← h1] at h2
    injection h2 with h2
    injection h2 with _ h2
    omega
  | some f =>
    have h1 := hat (.lit (.int .i64 1))
    rw [mapD_at, hg] at h1
    simp only at h1
    obtain ⟨y1, y2⟩ := y
    have h2 := rP_inv hv h1.symm
    injection h2 with h2
    exact ⟨f, (getF_some hg).1, (getF_some hg).2, h2⟩
set_option maxHeartbeats 1000000 in
set_option maxRecDepth 100000 in
theorem Used_calls (g b : Nat) (d : DS) (w : World) (h : Dk w g b d) (hn : (d.files.map (·.name)).Nodup) (hu : usedF d.files ≤ 4611686018427387904) :
    Calls Tryz.prog 90 #[.pointer (some ⟨g, 0, none⟩)] w fun e w' => e = .returned (.int .i64 (usedF d.files)) ∧ Below w.heap.size w w' := by
  have H := Aside0.mk h
  have HN := Aside0.mk hn
  have h5 := h.c5
  have hbl := h.own.lt
  clear h hn
  obtain ⟨u, hu'⟩ : ∃ u, u = usedF d.files := ⟨_, rfl⟩
  have HU := Aside0.mk hu'
  rw [← hu'] at hu ⊢
  clear hu'
  go_enter Tryz.func90, Tryz.ntmps90
  go_wp2_with (first | (at_range; refine wpList_range_own _ rfl _ 92 rfl 9 115 keyS Tryz.underlying92 rP b d.files.length (mapD d.files) rfl H.out.own ?_; intro w0 hrg0 hg0 hs0))
  have HR0 := Aside0.mk hrg0
  have HB0 := Aside0.mk ((Below.refl w.heap.size w).grown hg0 (Nat.le_refl _) (by simp))
  clear hrg0 hg0 hs0
  go_frame
  go_loopg [3, 5] (d.files.length + 1) (fun kq v3 _ w' => ∃ (left : Lit → Bool) (cnt n : Nat), v3 = .int .i64 n ∧ Aside0 (cnt < kq ∧ n + leftSum d.files left = u) ∧ Aside0 (w'.ranges Tryz.prog 9 rP b w.heap.size d.files.length (mapD d.files) left cnt) ∧ Aside0 (Below w.heap.size w w'))
  case atStart => exact ⟨_, _, 0, rfl, ⟨by rw [mapD_size]; omega, by rw [leftSum_all, HU.out]; omega⟩, HR0, HB0⟩
  case round =>
    clear HR0 HB0
    obtain ⟨left, cnt, n, rfl, HK, HR, HB⟩ := hrel
    have hnu : n ≤ u := by have := HK.out.2; omega
    cases gk with
    | zero => exact absurd HK.out.1 (Nat.not_lt_zero _)
    | succ k1 =>
    go_wp2_with (at_next; refine wpList_next_ranges _ rfl _ rfl 9 keyS rP Value.string Value.pointer key_inv rP_ptr b w.heap.size d.files.length (mapD d.files) left cnt rfl HR.out ?_ ?_)
    · intro _ hl0
      have HE : Aside0 (n = u) := ⟨by have h1 := HK.out.2; rw [leftSum_none _ _ hl0] at h1; omega⟩
      clear hl0
      go_wp2
      go_ret
      exact ⟨by rw [← HE.out]; rfl, HB.out⟩
    · intro x c kl y1 y2 w1 cnt1 hkey hlk hv hat hrg1 hlt hgr hsz hen
      obtain rfl := key_inv2 hkey
      obtain ⟨f, hf, rfl, rfl⟩ := entry_file (y := (y1, y2)) hv hat
      have HR1 := Aside0.mk hrg1
      have HB1 := Aside0.mk (HB.out.grown hgr HB.out.size (by intro k hk; injection hk with hk; omega))
      have hcell := blk_cell ((H.out.below HB1.out).file f hf) 0
      simp only [List.getElem?_toArray, List.getElem?_cons_zero] at hcell
      have HS := Aside0.mk (leftSum_step d.files left f HN.out hf hlk)
      have hnf : n + f.data.size ≤ u := by have := HK.out.2; have := HS.out; omega
      have HLT := Aside0.mk hlt
      clear hkey hat hv hrg1 hgr hsz hlk hf hlt
      go_wp2
      go_roundg k1
      case measure => omega
      case rel =>
        refine ⟨_, cnt1, n + f.data.size, by go_num, ⟨by have := HK.out.1; have := HLT.out; omega, ?_⟩, HR1, HB1⟩
        have h1 := HK.out.2
        have h2 := HS.out
        omega
end Go.Proofs.YtcbbdkennmopdaaGreatDoor.PK
/- disk: Free, fits, there. -/
namespace Go.Proofs.YtcbbdkennmopdaaGreatDoor.PK
open Go.RowKit Go.Proofs.YtcbbdkennmopdaaGreatDoorW.PrintWords Go.Proofs.YtcbbdkennmopdaaGreatDoorW.PrintLast Go.Proofs.YtcbbdkennmopdaaGreatDoorW.PrintMore
open Go.Maps
/-- What holds of a disk in use. -/
structure Good (d : DS) : Prop where
  fair : Fair d
  room0 : 0 ≤ d.room
  room1 : d.room ≤ 16777216
  count : d.files.length ≤ 100
  each : ∀ f ∈ d.files, 0 < f.name.size ∧ f.name.size ≤ 20 ∧ f.data.size ≤ 1048576 ∧ 0 ≤ f.kept ∧ f.kept ≤ (f.data.size : Int)
  names : (d.files.map (·.name)).Nodup
theorem usedF_le (fs : List Fl) (m : Nat) (h : ∀ f ∈ fs, f.data.size ≤ m) : usedF fs ≤ fs.length * m := by
  unfold usedF
  induction fs with
  | nil => simp
  | cons y r ih =>
    have h1 := h y List.mem_cons_self
    have h2 := ih (fun f hf => h f (List.mem_cons_of_mem _ hf))
    simp only [List.map_cons, List.sum_cons, List.length_cons, Nat.add_mul, Nat.one_mul]
    omega
theorem Good.used {d : DS} (h : Good d) : usedF d.files ≤ 104857600 := by
  have h1 := usedF_le d.files 1048576 (fun f hf => (h.each f hf).2.2.1)
  have h2 := h.count
  have h3 : d.files.length * 1048576 ≤ 100 * 1048576 := Nat.mul_le_mul_right _ h2
  omega
def freeD (d : DS) : Int := d.room - (usedF d.files : Int)
set_option maxHeartbeats 1000000 in
set_option maxRecDepth 100000 in
theorem Free_calls (g b : Nat) (d : DS) (w : World) (h : Dk w g b d) (hg : Good d) :
    Calls Tryz.prog 34 #[.pointer (some ⟨g, 0, none⟩)] w fun e w' => e = .returned (.int .i64 (freeD d)) ∧ Below w.heap.size w w' := by
  have HUC := Aside0.mk (fun w' (hb : Below w.heap.size w w') => Used_calls g b d w' (h.below hb) hg.names (by have := hg.used; omega))
  have h4 := h.c4
  have hlt := h.lt g (.inl rfl)
  have hu := hg.used
  have hr0 := hg.room0
  have hr1 := hg.room1
  obtain ⟨r, hr⟩ : ∃ r, r = d.room := ⟨_, rfl⟩
  have HE : Aside0 (freeD d = r - (usedF d.files : Int)) := ⟨by rw [hr]; rfl⟩
  rw [← hr] at h4 hr0 hr1
  clear h hg hr
  generalize usedF d.files = u at hu HE HUC
  have h40 : w.drew.cell? ⟨g, 4, none⟩ = some (.int .i64 r) := h4
  have ew : IntKind.i64.wrap (r - (u : Int)) = r - (u : Int) := by rw [IntKind.wrap_i64]; omega
  go_enter Tryz.func34, Tryz.ntmps34
  go_wp2_with fail
  go_region_law (go_simp; go_at_call 90; refine (HUC.out _ (below_drew (Below.refl _ _))).mono ?_; rintro e w1 ⟨rfl, hb1⟩; have h41 := (hb1.cell (p := ⟨g, 4, none⟩) hlt).trans h40; have HB1 := Aside0.mk (below_step (below_drew (Below.refl w.heap.size w)) hb1); clear hb1)
  all_goals
    go_wp2
    go_ret
    exact ⟨by rw [HE.out]; rfl, HB1.out⟩
def fitsD (d : DS) (name : ByteArray) (size has : Int) : Int :=
  if 1048576 < size ∨ (getF d.files name = none ∧ 100 ≤ d.files.length) then 5 else if freeD d < size - has then 6 else 0
theorem freeD_le {d : DS} (h : Good d) : freeD d ≤ 16777216 ∧ -104857600 ≤ freeD d := by
  have := h.room1
  have := h.room0
  have := h.used
  unfold freeD
  omega
set_option maxHeartbeats 1000000 in
set_option maxRecDepth 100000 in
theorem fits_calls (g b : Nat) (d : DS) (name : ByteArray) (size has : Int) (w : World) (h : Dk w g b d) (hg : Good d) (hs : name.size ≤ 9223372036854775807) (hz0 : 0 ≤ size) (hz1 : size ≤ 4611686018427387904) (ha0 : 0 ≤ has) (ha1 : has ≤ 4611686018427387904) :
    Calls Tryz.prog 85 #[.pointer (some ⟨g, 0, none⟩), .string name, .int .i64 size, .int .i64 has] w fun e w' => e = .returned (.int .i64 (fitsD d name size has)) ∧ Below w.heap.size w w' := by
  have h5 := h.c5
  have hlen := h.own.len
  have HF := Aside0.mk (Free_calls g b d w h hg)
  obtain ⟨n, hn⟩ : ∃ n, n = d.files.length := ⟨_, rfl⟩
  rw [← hn] at hlen
  obtain ⟨r, hr⟩ : ∃ r, r = fitsD d name size has := ⟨_, rfl⟩
  rw [← hr]
  have HR := Aside0.mk hr
  have hfl := freeD_le hg
  unfold fitsD at HR
  rw [← hn] at HR
  clear hr
  by_cases hb : 1048576 < size
  · have HX : Aside0 (r = 5) := ⟨by rw [HR.out, if_pos (.inl hb)]⟩
    clear h hg hn HR hlen
    go_enter Tryz.func85, Tryz.ntmps85
    go_wp2
    go_ret
    exact ⟨by rw [HX.out]; rfl, Below.refl _ _⟩
  · cases hgf : getF d.files name with
    | none =>
      have hl := h.look_none hs hgf
      rw [hgf] at HR
      by_cases hc : 100 ≤ n
      · have HX : Aside0 (r = 5) := ⟨by rw [HR.out, if_pos (.inr ⟨rfl, hc⟩)]⟩
        have hc2 : (100 : Int) ≤ (n : Int) := by omega
        clear h hg hn HR hgf
        go_enter Tryz.func85, Tryz.ntmps85
        go_wp2
        go_ret
        exact ⟨by rw [HX.out]; rfl, Below.refl _ _⟩
      · have HX : Aside0 (r = if freeD d < size - has then 6 else 0) := ⟨by rw [HR.out, if_neg (by rintro (h1 | h1); exact hb h1; exact hc h1.2)]⟩
        have hc2 : ¬ (100 : Int) ≤ (n : Int) := by omega
        clear h hg hn HR hgf
        generalize freeD d = fr at HF HX hfl
        by_cases hfr : fr < size - has
        · have HX2 : Aside0 (r = 6) := ⟨by rw [HX.out, if_pos hfr]⟩
          clear HX
          go_enter Tryz.func85, Tryz.ntmps85
          go_wp2_with fail
          refine HF.out.mono ?_
          rintro e w1 ⟨rfl, hb1⟩
          have HB1 := Aside0.mk hb1
          clear hb1
          go_wp2
          go_ret
          exact ⟨by rw [HX2.out]; rfl, HB1.out⟩
        · have HX2 : Aside0 (r = 0) := ⟨by rw [HX.out, if_neg hfr]⟩
          clear HX
          go_enter Tryz.func85, Tryz.ntmps85
          go_wp2_with fail
          refine HF.out.mono ?_
          rintro e w1 ⟨rfl, hb1⟩
          have HB1 := Aside0.mk hb1
          clear hb1
          go_wp2
          go_ret
          exact ⟨by rw [HX2.out]; rfl, HB1.out⟩
    | some f =>
      have hl := h.look_some hs hgf
      have HX : Aside0 (r = if freeD d < size - has then 6 else 0) := ⟨by rw [HR.out, hgf, if_neg (by rintro (h1 | h1); exact hb h1; cases h1.1)]⟩
      clear h hg hn HR hgf hlen
      generalize freeD d = fr at HF HX hfl
      by_cases hfr : fr < size - has
      · have HX2 : Aside0 (r = 6) := ⟨by rw [HX.out, if_pos hfr]⟩
        clear HX
        go_enter Tryz.func85, Tryz.ntmps85
        go_wp2_with fail
        refine HF.out.mono ?_
        rintro e w1 ⟨rfl, hb1⟩
        have HB1 := Aside0.mk hb1
        clear hb1
        go_wp2
        go_ret
        exact ⟨by rw [HX2.out]; rfl, HB1.out⟩
      · have HX2 : Aside0 (r = 0) := ⟨by rw [HX.out, if_neg hfr]⟩
        clear HX
        go_enter Tryz.func85, Tryz.ntmps85
        go_wp2_with fail
        refine HF.out.mono ?_
        rintro e w1 ⟨rfl, hb1⟩
        have HB1 := Aside0.mk hb1
        clear hb1
        go_wp2
        go_ret
        exact ⟨by rw [HX2.out]; rfl, HB1.out⟩
end Go.Proofs.YtcbbdkennmopdaaGreatDoor.PK
/- disk: there. -/
namespace Go.Proofs.YtcbbdkennmopdaaGreatDoor.PK
open Go.RowKit Go.Proofs.YtcbbdkennmopdaaGreatDoorW.PrintWords Go.Proofs.YtcbbdkennmopdaaGreatDoorW.PrintLast Go.Proofs.YtcbbdkennmopdaaGreatDoorW.PrintMore
open Go.Maps
def isThere (fs : List Fl) (s : ByteArray) : Bool := (getF fs s).isSome
def thereD (d : DS) (names : List ByteArray) : DS × Int := ((beginD d names).1, if (beginD d names).2 = 0 then (if names.all (isThere d.files) = true then 0 else 8) else (beginD d names).2)
theorem beginD_files (d : DS) (names : List ByteArray) : (beginD d names).1.files = d.files := useD_files d
theorem beginD_may {d : DS} {names : List ByteArray} (h : (beginD d names).2 = 0) : ∀ s ∈ names, mayN s = true := by
  unfold beginD at h
  intro s hs
  simp only at h
  split at h
  · split at h
    · omega
    · rename_i h1
      cases hm : mayN s with
      | true => rfl
      | false => exact absurd (List.any_eq_true.2 ⟨s, hs, by rw [hm]; rfl⟩) h1
  · omega
theorem mayN_size {s : ByteArray} (h : mayN s = true) : 0 < s.size ∧ s.size ≤ 20 := by
  unfold mayN at h
  simpa using h
set_option maxHeartbeats 1000000 in
set_option maxRecDepth 100000 in
theorem there_calls (g b : Nat) (d : DS) (A : Option Addr) (c : Nat) (names : List ByteArray) (w : World) (h : Dk w g b d) (hf : Fair d) (hC : Kd.C Kd.string w A names.length names) (hA : ∀ ad, A = some ad → 0 < names.length → ¬ foot g b d ad.block) :
    Calls Tryz.prog 81 #[.pointer (some ⟨g, 0, none⟩), .slice A names.length c] w fun e w' => e = .returned (.int .i64 (thereD d names).2) ∧ Turn w g b d (thereD d names).1 w' := by
  have HBC := Aside0.mk (begin_calls g b d A c names w h hf hC hA)
  have HKC := Aside0.mk (fun w' (hk : Kp (foot g b d) w w') => strC_kp hC hk hA)
  have hmax := Kd.C_max hC
  obtain ⟨d1, hd1⟩ : ∃ d1, d1 = (beginD d names).1 := ⟨_, rfl⟩
  obtain ⟨r, hr⟩ : ∃ r, r = (thereD d names).2 := ⟨_, rfl⟩
  obtain ⟨q, hq⟩ : ∃ q, q = (beginD d names).2 := ⟨_, rfl⟩
  have e1 : (thereD d names).1 = d1 := by rw [hd1]; rfl
  have HR : Aside0 (r = if q = 0 then (if names.all (isThere d.files) = true then 0 else 8) else q) := ⟨by rw [hr, hq]; rfl⟩
  have HMAY : Aside0 (q = 0 → ∀ s ∈ names, mayN s = true) := ⟨fun h0 => beginD_may (by rw [← hq]; exact h0)⟩
  have HFL : Aside0 (d1.files = d.files) := ⟨by rw [hd1]; exact beginD_files d names⟩
  rw [← hd1, ← hq] at HBC
  rw [← hr, e1]
  obtain ⟨n, hn⟩ : ∃ n, n = names.length := ⟨_, rfl⟩
  have HN := Aside0.mk hn
  rw [← hn] at HBC HKC hmax ⊢
  clear h hf hC hA hd1 hr hq e1 hn
  go_enter Tryz.func81, Tryz.ntmps81
  go_wp2_with fail
  refine HBC.out.mono ?_
  rintro e w1 ⟨rfl, ht⟩
  have HT := Aside0.mk ht
  clear ht
  by_cases hq : q = 0
  · subst hq
    have h5 := HT.out.dk.c5
    have HC := Aside0.mk (HKC.out w1 HT.out.kp)
    have HM : Aside0 (∀ s ∈ names, mayN s = true) := ⟨HMAY.out rfl⟩
    have HX : Aside0 (r = if names.all (isThere d.files) = true then 0 else 8) := ⟨by rw [HR.out]; rfl⟩
    clear HR HMAY HBC HKC
    go_wp2_with fail
    go_loopg [7, 16] (n + 1) (fun kq _ v16 w' => ∃ k : Nat, v16 = .int .i64 k ∧ Aside0 (n < k + kq) ∧ k ≤ n ∧ Aside0 (∀ j : Nat, j < k → isThere d.files (rdOf ByteArray.empty names (j : Int)) = true) ∧ Aside0 (w1 = w'))
    case atStart => exact ⟨0, rfl, ⟨by omega⟩, Nat.zero_le _, ⟨fun j hj => absurd hj (Nat.not_lt_zero _)⟩, ⟨rfl⟩⟩
    case round =>
      obtain ⟨k, rfl, HK, hk, HJ, HW⟩ := hrel
      obtain ⟨rfl⟩ := HW
      cases gk with
      | zero => exact absurd HK.out (by omega)
      | succ k1 =>
        by_cases hkn : k < n
        · obtain ⟨ad, e0, hx⟩ := Kd.at_string HC.out (k : Int) (by omega) (by have := HN.out; omega)
          cases e0
          simp only [Int.toNat_natCast] at hx
          obtain ⟨x, hxx⟩ : ∃ x, x = rdOf ByteArray.empty names (k : Int) := ⟨_, rfl⟩
          rw [← hxx] at hx
          have hmem : x ∈ names := by rw [hxx, rdS_at names k (by rw [← HN.out]; exact hkn)]; exact List.getElem_mem _
          have hsz := mayN_size (HM.out x hmem)
          have HXX := Aside0.mk hxx
          have HMEM := Aside0.mk hmem
          cases hgf : getF d1.files x with
          | none =>
            have hl := HT.out.dk.look_none (by omega) hgf
            have HG := Aside0.mk hgf
            clear hxx hmem hgf hsz
            go_wp2
            go_ret
            refine ⟨?_, HT.out⟩
            rw [HX.out, if_neg]
            · rfl
            · intro hall
              have h1 := List.all_eq_true.1 hall x HMEM.out
              unfold isThere at h1
              rw [← HFL.out, HG.out] at h1
              cases h1
          | some f =>
            have hl := HT.out.dk.look_some (by omega) hgf
            have HG := Aside0.mk hgf
            clear hxx hmem hgf hsz
            go_wp2
            go_roundg k1
            case measure => have := HK.out; omega
            case rel =>
              refine ⟨k + 1, by go_num, ⟨by have := HK.out; omega⟩, by omega, ⟨fun j hj => ?_⟩, ⟨rfl⟩⟩
              by_cases e : j = k
              · subst e
                rw [← HXX.out]
                unfold isThere
                rw [← HFL.out, HG.out]
                rfl
              · exact HJ.out j (by omega)
        · have e : k = n := by omega
          subst e
          go_wp2
          go_ret
          refine ⟨?_, HT.out⟩
          rw [HX.out, if_pos]
          · rfl
          · rw [List.all_eq_true]
            intro x hx
            obtain ⟨j, hj, rfl⟩ := List.getElem_of_mem hx
            rw [← rdS_at names j hj]
            exact HJ.out j (by rw [HN.out]; exact hj)
  · have hb0 : (q == 0) = false := beq_eq_false_iff_ne.2 hq
    have hb1 : (q != 0) = true := bne_iff_ne.2 hq
    have HX : Aside0 (r = q) := ⟨by rw [HR.out, if_neg hq]⟩
    clear hq
    go_wp2
    go_ret
    exact ⟨by rw [HX.out]; rfl, HT.out⟩
end Go.Proofs.YtcbbdkennmopdaaGreatDoor.PK
/- disk: Names. -/
namespace Go.Proofs.YtcbbdkennmopdaaGreatDoor.PK
open Go.RowKit Go.Proofs.YtcbbdkennmopdaaGreatDoorW.PrintWords Go.Proofs.YtcbbdkennmopdaaGreatDoorW.PrintLast Go.Proofs.YtcbbdkennmopdaaGreatDoorW.PrintMore
open Go.Maps Go.Sort Go.Shelf
theorem before_lt : ∀ a b : List UInt8, bytesBefore a b = decide (a < b)
  | [], [] => rfl
  | [], _ :: _ => by simp [bytesBefore]
  | _ :: _, [] => by simp [bytesBefore]
  | a :: r, b :: s => by
    have ih := before_lt r s
    simp only [bytesBefore, ih, List.cons_lt_cons_iff]
    by_cases h1 : a < b
    · simp [h1]
    · by_cases h2 : a = b
      · subst h2; simp
      · simp [h1, h2]
theorem lessN_lt {a b : ByteArray} : lessN a b = true ↔ a.data.toList < b.data.toList := by
  unfold lessN
  rw [before_lt]
  simp
def Asc (fs : List Fl) : Prop := fs.Pairwise fun x y => lessN x.name y.name = true
theorem lessN_irr (a : ByteArray) : lessN a a = false := by
  cases h : lessN a a with
  | false => rfl
  | true => exact absurd (lessN_lt.1 h) (List.lt_irrefl _)
theorem lessN_trans {a b c : ByteArray} (h : lessN a b = true) (k : lessN b c = true) : lessN a c = true := lessN_lt.2 (List.lt_trans (lessN_lt.1 h) (lessN_lt.1 k))
theorem lessN_total {a b : ByteArray} (hne : a ≠ b) (h : lessN a b = false) : lessN b a = true := by
  rcases Classical.em (lessN b a = true) with h1 | h1
  · exact h1
  · have n1 : ¬ a.data.toList < b.data.toList := fun e => by rw [lessN_lt.2 e] at h; cases h
    have n2 : ¬ b.data.toList < a.data.toList := fun e => h1 (lessN_lt.2 e)
    have e := List.le_antisymm (List.not_lt.1 n2) (List.not_lt.1 n1)
    exact absurd (sameN_iff.1 (by unfold sameN; rw [e]; simp)) hne
theorem Asc.names {fs : List Fl} (h : Asc fs) : (fs.map (·.name)).Nodup := by
  unfold Asc at h
  rw [List.Nodup, List.pairwise_map]
  refine h.imp fun {x y} hl e => ?_
  rw [e, lessN_irr] at hl
  cases hl
theorem Asc.del {fs : List Fl} (h : Asc fs) (s : ByteArray) : Asc (delF fs s) := List.Pairwise.filter _ h
theorem insF_asc {x : Fl} : ∀ {l : List Fl}, Asc l → (∀ y ∈ l, y.name ≠ x.name) → Asc (insF x l)
  | [], _, _ => by unfold insF Asc; exact List.pairwise_singleton _ _
  | y :: r, h, hn => by
    have h0 : Asc (y :: r) := h
    obtain ⟨h1, h2⟩ := List.pairwise_cons.1 h
    unfold insF
    split
    · rename_i hl
      refine List.pairwise_cons.2 ⟨fun z hz => ?_, h0⟩
      rcases List.mem_cons.1 hz with rfl | hz
      · exact hl
      · exact lessN_trans hl (h1 z hz)
    · rename_i hl
      refine List.pairwise_cons.2 ⟨fun z hz => ?_, insF_asc h2 (fun z hz => hn z (List.mem_cons_of_mem _ hz))⟩
      rcases mem_insF.1 hz with rfl | hz
      · exact lessN_total (fun e => hn y List.mem_cons_self e.symm) (Bool.not_eq_true _ ▸ hl)
      · exact h1 z hz
theorem Asc.put {fs : List Fl} (h : Asc fs) (x : Fl) : Asc (putF fs x) := insF_asc (h.del _) (fun _ hy => (mem_delF.1 hy).2)
def namesF (fs : List Fl) : List ByteArray := fs.map (·.name)
theorem strKeys_map (fs : List Fl) : strKeys (mapD fs) = fs.map (·.name.data.toList) := by
  show (fs.map encF).map (fun p => strOf p.1) = _
  rw [List.map_map]
  rfl
theorem sorted_names {fs : List Fl} (h : Asc fs) {ss : List (List UInt8)} (hp : ss.Perm (strKeys (mapD fs))) : (ss.mergeSort fun x y => decide (x ≤ y)) = fs.map (·.name.data.toList) := by
  have e1 : (ss.mergeSort leB) = ((strKeys (mapD fs)).mergeSort leB) := mergeSort_of_perm hp
  have e2 : ((strKeys (mapD fs)).mergeSort leB) = strKeys (mapD fs) := by
    refine List.mergeSort_of_pairwise ?_
    rw [strKeys_map, List.pairwise_map]
    exact h.imp fun {x y} hl => by simp only [leB, decide_eq_true_eq]; exact List.le_of_lt (lessN_lt.1 hl)
  rw [strKeys_map] at e2
  rw [← e2, ← strKeys_map]
  exact e1
theorem enc_names (fs : List Fl) : (fs.map (·.name.data.toList)).map encStr = encs Value.string (namesF fs) := by
  unfold encs namesF
  rw [List.map_map, List.map_map]
  refine List.map_congr_left fun f _ => ?_
  show Value.string ⟨f.name.data.toList.toArray⟩ = Value.string f.name
  rw [Array.toArray_toList]
theorem sortsW (m : Nat) : AnyZ.SortsIn Tryz.prog Tryz.sortedW_ren Fence.wide m :=
  ⟨fun blk off cap ss W hH hblk hsz => callsIn_wide.2 (AnyM.slices_Sort_string Tryz.sortW blk off cap ss W hH hblk hsz),
   fun p cap W => callsIn_wide.2 (AnyM.slices_Sort_string_none Tryz.sortW p cap W)⟩
theorem Keys_calls (mb : Option Nat) (W : World) : Calls Tryz.prog 76 #[.map mb] W fun e w' => e = .returned (.func (.func 116) #[] #[.pointer (some ⟨W.heap.size, 0, none⟩)]) ∧ w' = W.alloc (.cells #[.map mb] 92) :=
  callsIn_wide.1 (AnyZ.keys_in Tryz.keysW Fence.wide 5 trivial rfl mb W)
set_option maxHeartbeats 1000000 in
theorem Sorted_calls (b nn : Nat) (fs : List Fl) (w : World) (hown : OwnF w b nn fs) (ha : Asc fs) (hmax : fs.length ≤ 1000) :
    Calls Tryz.prog 75 #[.func (.func 116) #[] #[.pointer (some ⟨w.heap.size, 0, none⟩)]] (w.alloc (.cells #[.map (some b)] 92)) fun e w' => ∃ v, e = .returned v ∧ Kd.R Kd.string 9 w' w.heap.size (fun _ => True) v (namesF fs) ∧ Below w.heap.size w w' := by
  have hbl := hown.lt
  have hsz : Maps.size (mapD fs) ≤ 1000 := by rw [mapD_size]; exact hmax
  have hseq : SeqGives Fence.wide 2 Tryz.prog 116 #[.pointer (some ⟨w.heap.size, 0, none⟩)] encStr (fun ss => ss.Perm (strKeys (mapD fs))) (Maps.size (mapD fs)) (w.alloc (.cells #[.map (some b)] 92)) :=
    AnyZ.keys_gives (ρ := Tryz.keysW_ren) { Tryz.keysW with } Fence.wide _ trivial rfl (by omega) w.heap.size b nn (mapD fs) _ (by simp) (by simp) (by
      obtain ⟨es, clock, hb, Ft, hs, hD⟩ := hown
      exact ⟨es, clock, (Below.heap_alloc _ _ b hbl).trans hb, Ft, hs, hD⟩)
  refine (callsIn_wide.1 (AnyZ.sorted_in Tryz.sortedW Fence.wide 5 trivial trivial trivial trivial rfl (by omega) (sortsW _) (enters_ Tryz.func115 (by kernel_rfl) rfl) 116 #[.pointer (some ⟨w.heap.size, 0, none⟩)] trivial (enters_ Tryz.func116 (by kernel_rfl) rfl) _ _ (by unfold maxLen; omega) (by omega) _ hseq)).mono ?_
  rintro e w' ⟨v, ss, rfl, hS, hrow, _, hb⟩
  rw [sorted_names ha hS, enc_names] at hrow
  have hl : ss.length = (namesF fs).length := by
    rw [hS.length_eq, strKeys_map, List.length_map]; unfold namesF; rw [List.length_map]
  rw [hl] at hrow
  refine ⟨v, rfl, Kd.R_lower (Kd.R_of_own hrow (fun _ _ => trivial)) (by rw [alloc_size]; omega), (below_alloc (Below.refl _ _) _).trans (hb.mono (by rw [alloc_size]; omega))⟩
theorem strC_lt {w : World} {ad : Addr} {xs : List ByteArray} (h : Kd.C Kd.string w (some ad) xs.length xs) (hn : 0 < xs.length) : ad.block < w.heap.size := by
  obtain ⟨ad2, e, hc⟩ := Kd.at_string h 0 (by omega) (by omega)
  cases e
  have h1 := World.block_lt_of_cell? w _ hc
  have hbl : (ad.add (0 : Int).toNat).block = ad.block := by unfold Addr.add; split <;> rfl
  rwa [hbl] at h1
def hasP (a b : ByteArray) : Bool := Lib.hasPrefix a.data.toList b.data.toList
/-- The predicate 'begins with s', the name in a box. -/
theorem names11_pred (nb : Nat) (name : ByteArray) : PredI (fun w1 => w1.cell? ⟨nb, 0, none⟩ = some (.string name)) 72 #[.pointer (some ⟨nb, 0, none⟩)] (fun s => hasP name s) := by
  refine ⟨enters_ Tryz.func72 (by kernel_rfl) rfl, fun x w1 hI => ?_, fun w1 w2 hI hb => ?_⟩
  · have HP := Aside0.mk (Tryz.strings_HasPrefix name x w1)
    obtain ⟨q, hq⟩ : ∃ q, q = hasP name x := ⟨_, rfl⟩
    rw [← hq]
    rw [show Lib.hasPrefix name.data.toList x.data.toList = q from hq.symm] at HP
    clear hq
    go_enter Tryz.func72, Tryz.ntmps72
    go_wp2_with fail
    refine HP.out.mono ?_
    rintro e w2 ⟨rfl, rfl⟩
    go_wp2
    go_ret
    exact ⟨rfl, Below.refl _ _⟩
  · exact (hb.cell (p := ⟨nb, 0, none⟩) (World.block_lt_of_cell? w1 _ hI)).trans hI
def otherN (fronts : List ByteArray) (name : ByteArray) : Bool := decide (0 < fronts.length) && !(fronts.any fun s => hasP name s)
def FrontsI (fb : Nat) (A : Option Addr) (c : Nat) (fronts : List ByteArray) (w1 : World) : Prop := w1.cell? ⟨fb, 0, none⟩ = some (.slice A fronts.length c) ∧ Kd.C Kd.string w1 A fronts.length fronts
set_option maxRecDepth 100000 in
theorem names1_pred (fb : Nat) (A : Option Addr) (c : Nat) (fronts : List ByteArray) : PredI (FrontsI fb A c fronts) 70 #[.pointer (some ⟨fb, 0, none⟩)] (otherN fronts) := by
  refine ⟨enters_ Tryz.func70 (by kernel_rfl) rfl, fun x w1 hI => ?_, fun w1 w2 hI hb => ?_⟩
  · obtain ⟨hcell, hC⟩ := hI
    have hlt := World.block_lt_of_cell? w1 _ hcell
    have HCC := Aside0.mk (contains_calls _ _ _ _ (names11_pred w1.heap.size x) A c fronts (w1.alloc (.cells #[.string x] 9)) (Kd.C_alloc hC _) (blk_cell (blk_new w1 _) 0))
    obtain ⟨q, hq⟩ : ∃ q, q = fronts.any fun s => hasP x s := ⟨_, rfl⟩
    rw [← hq] at HCC
    have HO : Aside0 (otherN fronts x = (decide (0 < fronts.length) && !q)) := ⟨by unfold otherN; rw [hq]⟩
    obtain ⟨r, hr⟩ : ∃ r, r = otherN fronts x := ⟨_, rfl⟩
    rw [← hr] at HO ⊢
    have hmax := Kd.C_max hC
    clear hC hq hr
    generalize fronts.length = n at hcell HCC HO hmax ⊢
    by_cases hn : 0 < n
    · have hc2 : decide (0 < n) = true := decide_eq_true hn
      have HX : Aside0 (r = !q) := ⟨by rw [HO.out, hc2, Bool.true_and]⟩
      clear HO
      go_enter Tryz.func70, Tryz.ntmps70
      go_wp2_with fail
      refine HCC.out.mono ?_
      rintro e w2 ⟨rfl, hb2⟩
      have HB := Aside0.mk (below_step (below_alloc (Below.refl _ _) _) hb2)
      clear hb2
      go_wp2
      go_ret
      exact ⟨by rw [HX.out]; rfl, HB.out⟩
    · have hc2 : decide (0 < n) = false := decide_eq_false hn
      have HX : Aside0 (r = false) := ⟨by rw [HO.out, hc2, Bool.false_and]⟩
      clear HO
      go_enter Tryz.func70, Tryz.ntmps70
      go_wp2
      go_ret
      exact ⟨by rw [HX.out]; rfl, below_alloc (Below.refl _ _) _⟩
  · exact ⟨(hb.cell (p := ⟨fb, 0, none⟩) (World.block_lt_of_cell? w1 _ hI.1)).trans hI.1, Kd.C_below hI.2 hb⟩
def namesD (d : DS) (fronts : List ByteArray) : List ByteArray := (namesF d.files).filter fun s => !otherN fronts s
set_option maxHeartbeats 1000000 in
set_option maxRecDepth 100000 in
theorem Names_calls (g b : Nat) (d : DS) (A : Option Addr) (c : Nat) (fronts : List ByteArray) (w : World) (h : Dk w g b d) (ha : Asc d.files) (hl : d.files.length ≤ 1000) (hC : Kd.C Kd.string w A fronts.length fronts) :
    Calls Tryz.prog 15 #[.pointer (some ⟨g, 0, none⟩), .slice A fronts.length c] w fun e w' => ∃ v, e = .returned v ∧ Kd.R Kd.string 9 w' w.heap.size (fun _ => True) v (namesD d fronts) ∧ Below w.heap.size w w' := by
  have hb1 := below_alloc (Below.refl w.heap.size w) (.cells #[.slice A fronts.length c] 28)
  have h5 := (h.below hb1).c5
  have HKC := Aside0.mk (Keys_calls (some b) (w.alloc (.cells #[.slice A fronts.length c] 28)))
  have HSC := Aside0.mk (Sorted_calls b d.files.length d.files (w.alloc (.cells #[.slice A fronts.length c] 28)) (h.below hb1).own ha hl)
  have HF0 : Aside0 (∀ w2, Below (w.heap.size + 1) (w.alloc (.cells #[.slice A fronts.length c] 28)) w2 → FrontsI w.heap.size A c fronts w2) := ⟨fun w2 hb => ⟨(hb.cell (p := ⟨w.heap.size, 0, none⟩) (Nat.lt_succ_self _)).trans (blk_cell (blk_new w _) 0), Kd.C_below (Kd.C_alloc hC _) (by rw [alloc_size]; exact hb)⟩⟩
  have HLT : Aside0 (∀ ad, A = some ad → 0 < fronts.length → ad.block < w.heap.size) := ⟨fun ad e hn => strC_lt (by rw [← e]; exact hC) hn⟩
  have HPR := Aside0.mk (names1_pred w.heap.size A c fronts)
  obtain ⟨n, hn⟩ : ∃ n, n = fronts.length := ⟨_, rfl⟩
  have HN := Aside0.mk hn
  rw [← hn] at HKC HSC HF0 h5 ⊢
  have HW : Aside0 ((w.alloc (.cells #[.slice A n c] 28)).heap.size = w.heap.size + 1) := ⟨alloc_size _ _⟩
  rw [HW.out] at HSC HKC
  have HBA : Aside0 (Below w.heap.size w (w.alloc (.cells #[.slice A n c] 28))) := ⟨below_alloc (Below.refl _ _) _⟩
  clear hb1 h ha hl hC hn
  go_enter Tryz.func15, Tryz.ntmps15
  go_wp2_with fail
  refine HKC.out.mono ?_
  rintro e w1 ⟨rfl, rfl⟩
  go_wp2_with fail
  refine HSC.out.mono ?_
  rintro e w2 ⟨v, rfl, hr2, hb2⟩
  have HR2 := Aside0.mk hr2
  have HB2 := Aside0.mk hb2
  clear hr2 hb2
  go_wp2_with fail
  refine (delete_calls _ _ _ _ HPR.out v _ (fun _ => True) (namesF d.files) w2 HR2.out (HF0.out _ HB2.out) ?_).mono ?_
  · intro w3 w4 hI hg
    have hbase := Kd.R_base HR2.out
    refine ⟨?_, strC_kp hI.2 (Kp.of_grown (S := fun k => some k = v.ownBlock) hg (fun k e => e.symm)) (fun ad e hn hs => ?_)⟩
    · refine cell_grown hg hI.1 (fun e => ?_)
      have := hbase _ e.symm
      exact absurd this (Nat.not_succ_le_self _)
    · have := hbase _ hs.symm
      have := HLT.out ad e hn
      omega
  · rintro e w3 ⟨v', rfl, hr3, hg3⟩
    have HR3 := Aside0.mk hr3
    have HB3 := Aside0.mk (HB2.out.grown hg3 (by have := HB2.out.size; rw [HW.out] at this; exact this) (fun k hk => Kd.R_base HR2.out k hk))
    clear hr3 hg3
    go_wp2
    go_ret
    refine ⟨_, rfl, Kd.R_lower HR3.out (Nat.le_succ _), HBA.out.trans (HB3.out.mono (Nat.le_succ _))⟩
end Go.Proofs.YtcbbdkennmopdaaGreatDoor.PK
/- disk: what becomes of a disk: a file's cell is set, a file goes, a file comes. -/
namespace Go.Proofs.YtcbbdkennmopdaaGreatDoor.PK
open Go.RowKit Go.Proofs.YtcbbdkennmopdaaGreatDoorW.PrintWords Go.Proofs.YtcbbdkennmopdaaGreatDoorW.PrintLast Go.Proofs.YtcbbdkennmopdaaGreatDoorW.PrintMore
open Go.Maps
def updF (fs : List Fl) (s : ByteArray) (h : Fl → Fl) : List Fl := fs.map fun x => if sameN x.name s = true then h x else x
def fileCells (x : Fl) : Array Value := #[.string x.data, .int .i64 x.kept]
theorem updF_names (fs : List Fl) (s : ByteArray) (h : Fl → Fl) (hn : ∀ x, (h x).name = x.name) : (updF fs s h).map (·.name) = fs.map (·.name) := by
  unfold updF
  rw [List.map_map]
  refine List.map_congr_left fun x _ => ?_
  show (if sameN x.name s = true then h x else x).name = x.name
  split
  · exact hn x
  · rfl
theorem updF_map (fs : List Fl) (s : ByteArray) (h : Fl → Fl) (hn : ∀ x, (h x).name = x.name) (hb : ∀ x, (h x).blk = x.blk) : mapD (updF fs s h) = mapD fs := by
  unfold mapD updF
  rw [List.map_map]
  congr 1
  refine List.map_congr_left fun x _ => ?_
  show encF (if sameN x.name s = true then h x else x) = encF x
  split
  · unfold encF; rw [hn, hb]
  · rfl
theorem updF_blks (fs : List Fl) (s : ByteArray) (h : Fl → Fl) (hb : ∀ x, (h x).blk = x.blk) : (updF fs s h).map (·.blk) = fs.map (·.blk) := by
  unfold updF
  rw [List.map_map]
  refine List.map_congr_left fun x _ => ?_
  show (if sameN x.name s = true then h x else x).blk = x.blk
  split
  · exact hb x
  · rfl
theorem updF_len (fs : List Fl) (s : ByteArray) (h : Fl → Fl) : (updF fs s h).length = fs.length := List.length_map _
theorem nodup_one {α β : Type} {l : List α} {k : α → β} (hn : (l.map k).Nodup) {x y : α} (hx : x ∈ l) (hy : y ∈ l) (h : k x = k y) : x = y := by
  induction l with
  | nil => cases hx
  | cons z r ih =>
    rw [List.map_cons, List.nodup_cons] at hn
    rcases List.mem_cons.1 hx with e1 | hx2
    · rcases List.mem_cons.1 hy with e2 | hy2
      · rw [e1, e2]
      · exact absurd (by rw [← e1, h]; exact List.mem_map_of_mem hy2) hn.1
    · rcases List.mem_cons.1 hy with e2 | hy2
      · exact absurd (by rw [← e2, ← h]; exact List.mem_map_of_mem hx2) hn.1
      · exact ih hn.2 hx2 hy2
theorem foot_files {g b : Nat} {d d1 : DS} (h : d1.files.map (·.blk) = d.files.map (·.blk)) (k : Nat) : foot g b d1 k → foot g b d k := by
  rintro (h1 | h1 | ⟨f, hf, rfl⟩)
  · exact .inl h1
  · exact .inr (.inl h1)
  · have hm : f.blk ∈ d.files.map (·.blk) := by rw [← h]; exact List.mem_map_of_mem hf
    obtain ⟨f2, hf2, e⟩ := List.mem_map.1 hm
    exact .inr (.inr ⟨f2, hf2, e⟩)
/-- A file's cell is set. -/
theorem Turn.file {w : World} {g b : Nat} {d : DS} (H : Dk w g b d) (hn : (d.files.map (·.name)).Nodup) {f : Fl} (hf : f ∈ d.files) (h : Fl → Fl) (i : Nat) (v : Value) (h1 : ∀ x, (h x).name = x.name) (h2 : ∀ x, (h x).blk = x.blk) (h3 : (fileCells f).setIfInBounds i v = fileCells (h f)) :
    Turn w g b d { d with files := updF d.files f.name h } (w.setCell ⟨f.blk, i, none⟩ v) := by
  refine ⟨⟨?_, ?_, ?_, ?_⟩, Kp.of_set (.inr (.inr ⟨f, hf, rfl⟩)), fun k hk => .inl (foot_files (updF_blks _ _ _ h2) k hk)⟩
  · exact blk_far H.blk (fun e => H.ne_fg hf e.symm) v
  · show OwnF _ b (updF d.files f.name h).length (updF d.files f.name h)
    unfold OwnF
    rw [updF_len, updF_map _ _ _ h1 h2]
    exact World.ownsMap.setCell H.own (fun e => H.ne_fb hf e.symm) v
  · intro y hy
    obtain ⟨x, hx, rfl⟩ := List.mem_map.1 hy
    show (w.setCell ⟨f.blk, i, none⟩ v).heap[(if sameN x.name f.name = true then h x else x).blk]? = some (.cells (fileCells (if sameN x.name f.name = true then h x else x)) _ _)
    by_cases hs : sameN x.name f.name = true
    · have e := nodup_one hn hx hf (sameN_iff.1 hs)
      subst e
      rw [if_pos hs, h2, blk_set (H.file x hx) i v]
      show some (Obj.cells ((fileCells x).setIfInBounds i v) _ _) = _
      rw [h3]
    · rw [if_neg hs]
      refine blk_far (H.file x hx) (fun e => hs ?_) v
      have e2 := nodup_one H.nodup hx hf e
      rw [e2]; exact sameN_self _
  · show ((updF d.files f.name h).map (·.blk)).Nodup
    rw [updF_blks _ _ _ h2]
    exact H.nodup
theorem delF_sub (fs : List Fl) (s : ByteArray) : (delF fs s).Sublist fs := List.filter_sublist
/-- A file goes. -/
theorem Turn.del {w w1 : World} {g b n : Nat} {d : DS} (H : Dk w g b d) (s : ByteArray) (ho : OwnF w1 b n (delF d.files s)) (ht : w.mapTurned w1 b) : Turn w g b d { d with files := delF d.files s } w1 := by
  have hg := ht.grown
  have far : ∀ k, k < w.heap.size → k ≠ b → w1.heap[k]? = w.heap[k]? := fun k hk hn => hg.block k hk (fun e => hn (by injection e))
  refine ⟨⟨?_, ho.tight, ?_, ?_⟩, Kp.of_grown hg (fun k hk => .inr (.inl (by injection hk with hk; exact hk.symm))), fun k hk => .inl ?_⟩
  · exact (far g (blk_lt H.blk) H.ne_gb).trans H.blk
  · intro f hf
    have hf2 := (mem_delF.1 hf).1
    exact (far f.blk (blk_lt (H.file f hf2)) (H.ne_fb hf2)).trans (H.file f hf2)
  · exact H.nodup.sublist ((delF_sub d.files s).map _)
  · rcases hk with h1 | h1 | ⟨f, hf, rfl⟩
    · exact .inl h1
    · exact .inr (.inl h1)
    · exact .inr (.inr ⟨f, (mem_delF.1 hf).1, rfl⟩)
theorem insF_perm (x : Fl) : ∀ l : List Fl, (insF x l).Perm (x :: l)
  | [] => List.Perm.refl _
  | y :: r => by
    unfold insF
    split
    · exact List.Perm.refl _
    · exact ((insF_perm x r).cons y).trans (List.Perm.swap x y r)
/-- A file comes, or another one in its place. -/
theorem Turn.put {w w1 : World} {g b n : Nat} {d : DS} (H : Dk w g b d) (x : Fl) (hx : w.heap[x.blk]? = some (.cells (fileCells x) 120 (0, 0))) (hd : ∀ f ∈ d.files, f.name ≠ x.name → f.blk ≠ x.blk) (ho : OwnF w1 b n (putF d.files x)) (ht : w.mapTurned w1 b) :
    Dk w1 g b { d with files := putF d.files x } ∧ Kp (foot g b d) w w1 ∧ ∀ k, foot g b { d with files := putF d.files x } k → foot g b d k ∨ k = x.blk := by
  have hg := ht.grown
  have far : ∀ k, k < w.heap.size → k ≠ b → w1.heap[k]? = w.heap[k]? := fun k hk hn => hg.block k hk (fun e => hn (by injection e))
  have hxb : x.blk ≠ b := by
    rintro e
    obtain ⟨es, clock, hb, _⟩ := H.own
    rw [e, hb] at hx
    cases hx
  refine ⟨⟨?_, ho.tight, ?_, ?_⟩, Kp.of_grown hg (fun k hk => .inr (.inl (by injection hk with hk; exact hk.symm))), fun k hk => ?_⟩
  · exact (far g (blk_lt H.blk) H.ne_gb).trans H.blk
  · intro f hf
    rcases mem_putF.1 hf with rfl | ⟨hf2, _⟩
    · exact (far f.blk (blk_lt hx) hxb).trans hx
    · exact (far f.blk (blk_lt (H.file f hf2)) (H.ne_fb hf2)).trans (H.file f hf2)
  · have hp := (insF_perm x (delF d.files x.name)).map (·.blk)
    refine hp.nodup_iff.2 ?_
    rw [List.map_cons, List.nodup_cons]
    refine ⟨fun hm => ?_, H.nodup.sublist ((delF_sub d.files x.name).map _)⟩
    obtain ⟨f, hf, e⟩ := List.mem_map.1 hm
    exact hd f (mem_delF.1 hf).1 (mem_delF.1 hf).2 e
  · rcases hk with h1 | h1 | ⟨f, hf, rfl⟩
    · exact .inl (.inl h1)
    · exact .inl (.inr (.inl h1))
    · rcases mem_putF.1 hf with rfl | ⟨hf2, _⟩
      · exact .inr rfl
      · exact .inl (.inr (.inr ⟨f, hf2, rfl⟩))
end Go.Proofs.YtcbbdkennmopdaaGreatDoor.PK
/- disk: Delete, Rename, Sync. -/
namespace Go.Proofs.YtcbbdkennmopdaaGreatDoor.PK
open Go.RowKit Go.Proofs.YtcbbdkennmopdaaGreatDoorW.PrintWords Go.Proofs.YtcbbdkennmopdaaGreatDoorW.PrintLast Go.Proofs.YtcbbdkennmopdaaGreatDoorW.PrintMore
open Go.Maps
theorem strC_blk {W : World} {b t : Nat} {l : List ByteArray} (hb : W.heap[b]? = some (.cells (l.map Value.string).toArray t (0, 0))) (hl : l.length ≤ 1000000) : Kd.C Kd.string W (some ⟨b, 0, none⟩) l.length l := by
  refine Kd.C_of_reads (d := ByteArray.empty) ⟨rfl, by omega, fun _ => ⟨_, rfl, fun j hj => ?_⟩⟩
  rw [add_plain, blk_cell hb]
  simp [List.getD, hj]
theorem Turn.allocd {w : World} {g b : Nat} {d : DS} (h : Dk w g b d) (o : Obj) : Turn w g b d d (w.alloc o) := Turn.below h (below_alloc (Below.refl _ _) o)
def deleteD (d : DS) (name : ByteArray) : DS × Int := if (thereD d [name]).2 = 0 then ({ (thereD d [name]).1 with files := delF (thereD d [name]).1.files name }, 0) else thereD d [name]
theorem thereD_files (d : DS) (names : List ByteArray) : (thereD d names).1.files = d.files := useD_files d
theorem thereD_begin {d : DS} {names : List ByteArray} (h : (thereD d names).2 = 0) : (beginD d names).2 = 0 ∧ names.all (isThere d.files) = true := by
  unfold thereD at h
  simp only at h
  split at h
  · rename_i h0
    split at h
    · exact ⟨h0, by assumption⟩
    · omega
  · rename_i h0
    exact absurd h h0
set_option maxHeartbeats 1000000 in
set_option maxRecDepth 100000 in
theorem Delete_calls (g b : Nat) (d : DS) (name : ByteArray) (w : World) (h : Dk w g b d) (hf : Fair d) :
    Calls Tryz.prog 79 #[.pointer (some ⟨g, 0, none⟩), .string name] w fun e w' => e = .returned (.int .i64 (deleteD d name).2) ∧ Turn w g b d (deleteD d name).1 w' := by
  have HT0 := Aside0.mk (Turn.allocd h (.cells #[.string name] 9))
  have HTC := Aside0.mk (there_calls g b d (some ⟨w.heap.size, 0, none⟩) 1 [name] (w.alloc (.cells #[.string name] 9)) HT0.out.dk hf (strC_blk (l := [name]) (blk_new w _) (by simp)) (fun ad e _ hk => by
    injection e with e
    subst e
    exact absurd (h.lt _ hk) (Nat.lt_irrefl _)))
  obtain ⟨r, hr⟩ : ∃ r, r = (thereD d [name]).2 := ⟨_, rfl⟩
  obtain ⟨d1, hd1⟩ : ∃ d1, d1 = (thereD d [name]).1 := ⟨_, rfl⟩
  have HR : Aside0 (deleteD d name = if r = 0 then ({ d1 with files := delF d1.files name }, 0) else (d1, r)) := ⟨by rw [hr, hd1]; rfl⟩
  have HM : Aside0 (r = 0 → name.size ≤ 20) := ⟨fun h0 => (mayN_size (beginD_may (thereD_begin (hr ▸ h0)).1 name List.mem_cons_self)).2⟩
  rw [← hr, ← hd1] at HTC
  obtain ⟨q, hq⟩ : ∃ q, q = deleteD d name := ⟨_, rfl⟩
  rw [← hq] at HR ⊢
  clear h hf hr hd1 hq
  go_enter Tryz.func79, Tryz.ntmps79
  go_wp2_with fail
  refine HTC.out.mono ?_
  rintro e w1 ⟨rfl, ht⟩
  have HT := Aside0.mk (HT0.out.trans ht)
  clear ht
  by_cases h0 : r = 0
  · subst h0
    have h5 := HT.out.dk.c5
    have hs := HM.out rfl
    have HX : Aside0 (q = ({ d1 with files := delF d1.files name }, 0)) := ⟨by rw [HR.out, if_pos rfl]⟩
    clear HR HM
    go_wp2_with (at_delete; refine wpList_delete_own _ rfl _ _ 92 9 rfl 115 keyS Tryz.underlying92 rP b d1.files.length (mapD d1.files) rfl HT.out.dk.own _ (keyN name) rfl (keyOfS (by omega)) ?_; intro w2 hown2 hturn2)
    have HO2 := Aside0.mk hown2
    have HU2 := Aside0.mk hturn2
    clear hown2 hturn2
    go_wp2
    go_ret
    have h2 := HO2.out
    rw [mapD_del] at h2
    rw [HX.out]
    exact ⟨rfl, HT.out.trans (Turn.del HT.out.dk name h2 HU2.out)⟩
  · have hb0 : (r == 0) = false := beq_eq_false_iff_ne.2 h0
    have HX : Aside0 (q = (d1, r)) := ⟨by rw [HR.out, if_neg h0]⟩
    clear HR HM h0
    go_wp2
    go_ret
    rw [HX.out]
    exact ⟨rfl, HT.out⟩
def renF (fs : List Fl) (a c : ByteArray) (f : Fl) : List Fl := putF (delF fs a) { f with name := c }
def renameD (d : DS) (a c : ByteArray) : DS × Int :=
  if (beginD d [a, c]).2 = 0 then (match getF (beginD d [a, c]).1.files a with | none => ((beginD d [a, c]).1, 8) | some f => ({ (beginD d [a, c]).1 with files := renF (beginD d [a, c]).1.files a c f }, 0)) else beginD d [a, c]
set_option maxHeartbeats 1000000 in
set_option maxRecDepth 100000 in
theorem Rename_calls (g b : Nat) (d : DS) (a c : ByteArray) (w : World) (h : Dk w g b d) (hf : Fair d) (hn : d.files.length ≤ 1000000) :
    Calls Tryz.prog 67 #[.pointer (some ⟨g, 0, none⟩), .string a, .string c] w fun e w' => e = .returned (.int .i64 (renameD d a c).2) ∧ Turn w g b d (renameD d a c).1 w' := by
  have HT0 := Aside0.mk (Turn.allocd h (.cells #[.string a, .string c] 9))
  have HTC := Aside0.mk (begin_calls g b d (some ⟨w.heap.size, 0, none⟩) 2 [a, c] (w.alloc (.cells #[.string a, .string c] 9)) HT0.out.dk hf (strC_blk (l := [a, c]) (blk_new w _) (by simp)) (fun ad e _ hk => by
    injection e with e
    subst e
    exact absurd (h.lt _ hk) (Nat.lt_irrefl _)))
  obtain ⟨r, hr⟩ : ∃ r, r = (beginD d [a, c]).2 := ⟨_, rfl⟩
  obtain ⟨d1, hd1⟩ : ∃ d1, d1 = (beginD d [a, c]).1 := ⟨_, rfl⟩
  have HR : Aside0 (renameD d a c = if r = 0 then (match getF d1.files a with | none => (d1, 8) | some f => ({ d1 with files := renF d1.files a c f }, 0)) else (d1, r)) := ⟨by rw [hr, hd1]; rfl⟩
  have HM : Aside0 (r = 0 → a.size ≤ 20 ∧ c.size ≤ 20) := ⟨fun h0 => ⟨(mayN_size (beginD_may (hr ▸ h0) a List.mem_cons_self)).2, (mayN_size (beginD_may (hr ▸ h0) c (List.mem_cons_of_mem _ List.mem_cons_self))).2⟩⟩
  have HL : Aside0 (d1.files.length ≤ 1000000) := ⟨by rw [hd1, beginD_files]; exact hn⟩
  rw [← hr, ← hd1] at HTC
  obtain ⟨q, hq⟩ : ∃ q, q = renameD d a c := ⟨_, rfl⟩
  rw [← hq] at HR ⊢
  clear h hf hr hd1 hq hn
  go_enter Tryz.func67, Tryz.ntmps67
  go_wp2_with fail
  refine HTC.out.mono ?_
  rintro e w1 ⟨rfl, ht⟩
  have HT := Aside0.mk (HT0.out.trans ht)
  clear ht
  by_cases h0 : r = 0
  · subst h0
    have h5 := HT.out.dk.c5
    have hs := HM.out rfl
    cases hgf : getF d1.files a with
    | none =>
      have HX : Aside0 (q = (d1, 8)) := ⟨by rw [HR.out, if_pos rfl, hgf]⟩
      have hl := HT.out.dk.look_none (by omega) hgf
      clear HR HM hgf
      go_wp2
      go_ret
      rw [HX.out]
      exact ⟨rfl, HT.out⟩
    | some f =>
      have HX : Aside0 (q = ({ d1 with files := renF d1.files a c f }, 0)) := ⟨by rw [HR.out, if_pos rfl, hgf]⟩
      have hl := HT.out.dk.look_some (by omega) hgf
      have hfm := getF_some hgf
      have HFM := Aside0.mk hfm
      clear HR HM hgf hfm
      have HL2 : Aside0 ((delF d1.files a).length < maxLen) := ⟨by
        have h1 := (delF_sub d1.files a).length_le
        have h2 := HL.out
        unfold maxLen
        omega⟩
      have HFAR : Aside0 (∀ w2, w1.mapTurned w2 b → w2.heap[f.blk]? = some (.cells (fileCells f) 120 (0, 0))) := ⟨fun w2 hturn2 => (hturn2.grown.block f.blk (blk_lt (HT.out.dk.file f HFM.out.1)) (fun e => by injection e with e; exact absurd e (HT.out.dk.ne_fb HFM.out.1))).trans (HT.out.dk.file f HFM.out.1)⟩
      go_wp2_with (first | (at_delete; refine wpList_delete_own _ rfl _ _ 92 9 rfl 115 keyS Tryz.underlying92 rP b d1.files.length (mapD d1.files) rfl HT.out.dk.own _ (keyN a) rfl (keyOfS (by omega)) ?_; intro w2 hown2 hturn2; rw [mapD_del] at hown2; have HD2 := Aside0.mk (Turn.del HT.out.dk a hown2 hturn2); have HFB := Aside0.mk (HFAR.out w2 hturn2); have h52 := HD2.out.dk.c5; clear hown2 hturn2) | (at_mapUpdate; refine wpList_mapUpdate_in _ rfl _ _ _ 92 rfl 9 115 keyS Tryz.underlying92 rP b (delF d1.files a).length (mapD (delF d1.files a)) rfl HD2.out.dk.own HL2.out _ _ (keyN c) rfl rfl (keyOfS (by omega)) (.lit (.int .i64 (f.blk : Int))) [] rfl ?_; intro w3 hown3 hturn3))
      have h3 : OwnF w3 b ((delF d1.files a).length + 1) (putF (delF d1.files a) { f with name := c }) := by
        have h4 := hown3
        rw [show (mapD (delF d1.files a)).put (keyN c) (.lit (.int .i64 (f.blk : Int))) = mapD (putF (delF d1.files a) { f with name := c }) from mapD_put (delF d1.files a) { f with name := c }] at h4
        exact h4
      have HP := Aside0.mk (Turn.put HD2.out.dk { f with name := c } HFB.out (fun y hy _ e => by
        have hy2 := mem_delF.1 hy
        have e2 := nodup_one HT.out.dk.nodup hy2.1 HFM.out.1 e
        exact hy2.2 (by rw [e2]; exact HFM.out.2)) h3 hturn3)
      clear hown3 hturn3 h3
      go_wp2
      go_ret
      rw [HX.out]
      refine ⟨rfl, HT.out.trans ⟨HP.out.1, ⟨HP.out.2.1.os.trans HD2.out.kp.os, HP.out.2.1.tape.trans HD2.out.kp.tape, HP.out.2.1.output.trans HD2.out.kp.output, Nat.le_trans HD2.out.kp.size HP.out.2.1.size, fun i hi hn => (HP.out.2.1.block i (Nat.lt_of_lt_of_le hi HD2.out.kp.size) (fun hk => ?_)).trans (HD2.out.kp.block i hi hn)⟩, fun k hk => ?_⟩⟩
      · rcases HD2.out.new i hk with h1 | h1
        · exact hn h1
        · omega
      · rcases HP.out.2.2 k hk with h1 | h1
        · exact HD2.out.new k h1
        · exact .inl (.inr (.inr ⟨f, HFM.out.1, h1.symm⟩))
  · have hb0 : (r == 0) = false := beq_eq_false_iff_ne.2 h0
    have hb1 : (r != 0) = true := bne_iff_ne.2 h0
    have HX : Aside0 (q = (d1, r)) := ⟨by rw [HR.out, if_neg h0]⟩
    clear HR HM h0
    go_wp2
    go_ret
    rw [HX.out]
    exact ⟨rfl, HT.out⟩
end Go.Proofs.YtcbbdkennmopdaaGreatDoor.PK
/- disk: Sync, Cut. -/
namespace Go.Proofs.YtcbbdkennmopdaaGreatDoor.PK
open Go.RowKit Go.Proofs.YtcbbdkennmopdaaGreatDoorW.PrintWords Go.Proofs.YtcbbdkennmopdaaGreatDoorW.PrintLast Go.Proofs.YtcbbdkennmopdaaGreatDoorW.PrintMore
open Go.Maps
def keepAll (x : Fl) : Fl := { x with kept := (x.data.size : Int) }
def syncF : List Fl → List ByteArray → List Fl
  | fs, [] => fs
  | fs, s :: r => syncF (updF fs s keepAll) r
theorem syncF_snoc : ∀ (l : List ByteArray) (fs : List Fl) (s : ByteArray), syncF fs (l ++ [s]) = updF (syncF fs l) s keepAll
  | [], _, _ => rfl
  | y :: r, fs, s => by
    show syncF (updF fs y keepAll) (r ++ [s]) = _
    rw [syncF_snoc r]
    rfl
theorem syncF_names : ∀ (l : List ByteArray) (fs : List Fl), (syncF fs l).map (·.name) = fs.map (·.name)
  | [], _ => rfl
  | y :: r, fs => by
    show (syncF (updF fs y keepAll) r).map (·.name) = _
    rw [syncF_names r]
    exact updF_names fs y keepAll (fun _ => rfl)
theorem isThere_names {fs fs' : List Fl} (h : fs.map (·.name) = fs'.map (·.name)) (s : ByteArray) : isThere fs s = isThere fs' s := by
  have key : ∀ fs : List Fl, isThere fs s = (fs.map (·.name)).any fun n => sameN n s := fun fs => by
    unfold isThere getF
    rw [Bool.eq_iff_iff, List.find?_isSome, List.any_map, List.any_eq_true]
    rfl
  rw [key, key, h]
def syncD (d : DS) (names : List ByteArray) : DS × Int := if (thereD d names).2 = 0 then ({ (thereD d names).1 with files := syncF (thereD d names).1.files names }, 0) else thereD d names
theorem take_snocS (xs : List ByteArray) (k : Nat) (h : k < xs.length) : xs.take (k + 1) = xs.take k ++ [xs[k]] := List.take_succ_eq_append_getElem h
set_option maxHeartbeats 1000000 in
set_option maxRecDepth 100000 in
theorem Sync_calls (g b : Nat) (d : DS) (A : Option Addr) (c : Nat) (names : List ByteArray) (w : World) (h : Dk w g b d) (hf : Fair d) (hnd : (d.files.map (·.name)).Nodup) (hC : Kd.C Kd.string w A names.length names) (hA : ∀ ad, A = some ad → 0 < names.length → ¬ foot g b d ad.block) :
    Calls Tryz.prog 20 #[.pointer (some ⟨g, 0, none⟩), .slice A names.length c] w fun e w' => e = .returned (.int .i64 (syncD d names).2) ∧ Turn w g b d (syncD d names).1 w' := by
  have HTC := Aside0.mk (there_calls g b d A c names w h hf hC hA)
  have HKC := Aside0.mk (fun w' (hk : Kp (foot g b d) w w') => strC_kp hC hk hA)
  have hmax := Kd.C_max hC
  obtain ⟨r, hr⟩ : ∃ r, r = (thereD d names).2 := ⟨_, rfl⟩
  obtain ⟨d1, hd1⟩ : ∃ d1, d1 = (thereD d names).1 := ⟨_, rfl⟩
  have HR : Aside0 (syncD d names = if r = 0 then ({ d1 with files := syncF d1.files names }, 0) else (d1, r)) := ⟨by rw [hr, hd1]; rfl⟩
  have HM : Aside0 (r = 0 → (∀ s ∈ names, mayN s = true) ∧ ∀ s ∈ names, isThere d1.files s = true) := ⟨fun h0 => by
    have h1 := thereD_begin (hr ▸ h0)
    rw [hd1, thereD_files]
    exact ⟨beginD_may h1.1, fun s hs => List.all_eq_true.1 h1.2 s hs⟩⟩
  have HND : Aside0 ((d1.files.map (·.name)).Nodup) := ⟨by rw [hd1, thereD_files]; exact hnd⟩
  rw [← hr, ← hd1] at HTC
  obtain ⟨q, hq⟩ : ∃ q, q = syncD d names := ⟨_, rfl⟩
  rw [← hq] at HR ⊢
  obtain ⟨n, hn⟩ : ∃ n, n = names.length := ⟨_, rfl⟩
  have HN := Aside0.mk hn
  rw [← hn] at HTC HKC hmax ⊢
  clear h hf hr hd1 hq hnd hC hA hn
  go_enter Tryz.func20, Tryz.ntmps20
  go_wp2_with fail
  refine HTC.out.mono ?_
  rintro e w1 ⟨rfl, ht⟩
  have HT := Aside0.mk ht
  clear ht
  by_cases h0 : r = 0
  · subst h0
    have HS := Aside0.mk (HM.out rfl)
    have HX : Aside0 (q = ({ d1 with files := syncF d1.files names }, 0)) := ⟨by rw [HR.out, if_pos rfl]⟩
    clear HR HM HTC
    go_wp2_with fail
    go_loopg [7, 8, 17] (n + 1) (fun kq _ _ v17 w' => ∃ k : Nat, v17 = .int .i64 k ∧ Aside0 (n < k + kq) ∧ k ≤ n ∧ Aside0 (Turn w g b d { d1 with files := syncF d1.files (names.take k) } w'))
    case atStart => exact ⟨0, rfl, ⟨by omega⟩, Nat.zero_le _, HT⟩
    case round =>
      clear HT
      obtain ⟨k, rfl, HK, hk, HT⟩ := hrel
      cases gk with
      | zero => exact absurd HK.out (by omega)
      | succ k1 =>
        by_cases hkn : k < n
        · have hkl : k < names.length := by have := HN.out; omega
          obtain ⟨ad, e0, hx⟩ := Kd.at_string (HKC.out _ HT.out.kp) (k : Int) (by omega) (by omega)
          cases e0
          simp only [Int.toNat_natCast] at hx
          obtain ⟨x, hxx⟩ : ∃ x, x = rdOf ByteArray.empty names (k : Int) := ⟨_, rfl⟩
          rw [← hxx] at hx
          rw [rdS_at names k hkl] at hxx
          have hmem : x ∈ names := by rw [hxx]; exact List.getElem_mem _
          have hsz := mayN_size (HS.out.1 x hmem)
          have hth := HS.out.2 x hmem
          rw [← isThere_names (syncF_names (names.take k) d1.files)] at hth
          obtain ⟨f, hgf⟩ := Option.isSome_iff_exists.1 hth
          have hfm := getF_some hgf
          have hl := HT.out.dk.look_some (by omega) hgf
          have h5 := HT.out.dk.c5
          have hc0 := blk_cell (HT.out.dk.file f hfm.1) 0
          have hc1 := blk_cell (HT.out.dk.file f hfm.1) 1
          have hf1 := blk_frozen (HT.out.dk.file f hfm.1) 1
          have hlt := blk_lt (HT.out.dk.file f hfm.1)
          simp only [List.getElem?_toArray, List.getElem?_cons_succ, List.getElem?_cons_zero] at hc0 hc1
          have HT2 := Aside0.mk (HT.out.trans (Turn.file HT.out.dk (by show ((syncF d1.files (names.take k)).map (·.name)).Nodup; rw [syncF_names]; exact HND.out) hfm.1 keepAll 1 (.int .i64 (f.data.size : Int)) (fun _ => rfl) (fun _ => rfl) rfl))
          have HE : Aside0 (syncF d1.files (names.take (k + 1)) = updF (syncF d1.files (names.take k)) f.name keepAll) := ⟨by rw [take_snocS names k hkl, syncF_snoc, hfm.2, hxx]⟩
          clear hxx hmem hsz hth hgf hfm
          go_wp2
          go_roundg k1
          case measure => have := HK.out; omega
          case rel =>
            refine ⟨k + 1, by go_num, ⟨by have := HK.out; omega⟩, by omega, ?_⟩
            rw [HE.out]
            exact HT2
        · have e : k = n := by omega
          subst e
          go_wp2
          go_ret
          rw [HX.out]
          have h1 := HT.out
          rw [List.take_of_length_le (by rw [HN.out]; exact Nat.le_refl _)] at h1
          exact ⟨rfl, h1⟩
  · have hb0 : (r == 0) = false := beq_eq_false_iff_ne.2 h0
    have hb1 : (r != 0) = true := bne_iff_ne.2 h0
    have HX : Aside0 (q = (d1, r)) := ⟨by rw [HR.out, if_neg h0]⟩
    clear HR HM h0
    go_wp2
    go_ret
    rw [HX.out]
    exact ⟨rfl, HT.out⟩
end Go.Proofs.YtcbbdkennmopdaaGreatDoor.PK
/- disk: Cut. -/
namespace Go.Proofs.YtcbbdkennmopdaaGreatDoor.PK
open Go.RowKit Go.Proofs.YtcbbdkennmopdaaGreatDoorW.PrintWords Go.Proofs.YtcbbdkennmopdaaGreatDoorW.PrintLast Go.Proofs.YtcbbdkennmopdaaGreatDoorW.PrintMore
open Go.Maps
/-- Two cells of a file are set, one behind the other. -/
theorem Turn.file2 {w : World} {g b : Nat} {d : DS} (H : Dk w g b d) (hn : (d.files.map (·.name)).Nodup) {f : Fl} (hf : f ∈ d.files) (s : ByteArray) (k : Int) (h : Fl → Fl) (h1 : ∀ x, (h x).name = x.name) (h2 : ∀ x, (h x).blk = x.blk) (h3 : h f = { f with data := s, kept := k }) :
    Turn w g b d { d with files := updF d.files f.name h } ((w.setCell ⟨f.blk, 0, none⟩ (.string s)).setCell ⟨f.blk, 1, none⟩ (.int .i64 k)) := by
  have t1 := Turn.file H hn hf (fun x => { x with data := s }) 0 (.string s) (fun _ => rfl) (fun _ => rfl) rfl
  have hm : ({ f with data := s } : Fl) ∈ updF d.files f.name (fun x => { x with data := s }) := by
    unfold updF
    exact List.mem_map.2 ⟨f, hf, by rw [if_pos (sameN_self _)]⟩
  have t2 := Turn.file t1.dk (by show ((updF d.files f.name _).map (·.name)).Nodup; rw [updF_names _ _ _ (by exact fun _ => rfl)]; exact hn) hm (fun x => { x with kept := k }) 1 (.int .i64 k) (fun _ => rfl) (fun _ => rfl) rfl
  have e : updF (updF d.files f.name (fun x => { x with data := s })) f.name (fun x => { x with kept := k }) = updF d.files f.name h := by
    unfold updF
    rw [List.map_map]
    refine List.map_congr_left fun x hx => ?_
    show (if sameN (if sameN x.name f.name = true then ({ x with data := s } : Fl) else x).name f.name = true then _ else _) = _
    by_cases hs : sameN x.name f.name = true
    · have e2 := nodup_one hn hx hf (sameN_iff.1 hs)
      subst e2
      simp only [sameN_self, if_true, h3]
    · simp only [hs, if_false, Bool.false_eq_true]
  have t3 := t1.trans t2
  have e3 : ({ ({ d with files := updF d.files f.name (fun x => { x with data := s }) } : DS) with files := updF (updF d.files f.name (fun x => { x with data := s })) f.name (fun x => { x with kept := k }) } : DS) = { d with files := updF d.files f.name h } := by rw [e]
  exact e3 ▸ t3
end Go.Proofs.YtcbbdkennmopdaaGreatDoor.PK
/- disk: Append, Put. -/
namespace Go.Proofs.YtcbbdkennmopdaaGreatDoor.PK
open Go.RowKit Go.Proofs.YtcbbdkennmopdaaGreatDoorW.PrintWords Go.Proofs.YtcbbdkennmopdaaGreatDoorW.PrintLast Go.Proofs.YtcbbdkennmopdaaGreatDoorW.PrintMore
open Go.Maps
def sumS (l : List ByteArray) : Nat := (l.map (·.size)).sum
def catS (l : List ByteArray) : ByteArray := ⟨(l.map (·.data.toList)).flatten.toArray⟩
theorem join_flat (xs : List (List UInt8)) : Lib.join xs [] = xs.flatten := by
  cases xs with
  | nil => rfl
  | cons x r => rw [Lib.join_cons, List.flatten_cons]; unfold Lib.joinTail; simp
theorem catS_size (l : List ByteArray) : (catS l).size = sumS l := by
  show (l.map (·.data.toList)).flatten.toArray.size = _
  rw [List.size_toArray, List.length_flatten, List.map_map]
  unfold sumS
  congr 1
theorem join_cat (l : List ByteArray) (h : sumS l ≤ 140737488355328) (hl : l.length ≤ 140737488355328) : strings_Join.f l ⟨#[]⟩ = some (catS l) := by
  unfold strings_Join.f
  have e : Lib.join (l.map (·.data.toList)) (⟨#[]⟩ : ByteArray).data.toList = (l.map (·.data.toList)).flatten := join_flat _
  have h2 : (catS l).size = (l.map (·.data.toList)).flatten.length := by show (List.toArray _).size = _; rw [List.size_toArray]
  rw [e, if_pos ⟨by rw [← h2, catS_size]; exact h, hl⟩]
  rfl
theorem sumS_take (l : List ByteArray) (k : Nat) (h : k < l.length) : sumS (l.take (k + 1)) = sumS (l.take k) + l[k].size := by
  unfold sumS
  rw [List.take_succ_eq_append_getElem h, List.map_append, List.sum_append]
  simp
theorem sumS_take_le (l : List ByteArray) (k : Nat) : sumS (l.take k) ≤ sumS l := by
  have e : sumS l = sumS (l.take k) + sumS (l.drop k) := by
    unfold sumS
    rw [← List.sum_append, ← List.map_append, List.take_append_drop]
  omega
theorem delF_updF (fs : List Fl) (s : ByteArray) (h : Fl → Fl) (hn : ∀ x, (h x).name = x.name) : delF (updF fs s h) s = delF fs s := by
  unfold delF updF
  induction fs with
  | nil => rfl
  | cons y r ih =>
    rw [List.map_cons, List.filter_cons, List.filter_cons, ih]
    by_cases hs : sameN y.name s = true
    · rw [if_pos hs, hn, hs]
      rfl
    · rw [if_neg hs]
theorem putF_updF (fs : List Fl) (x : Fl) (h : Fl → Fl) (hn : ∀ x, (h x).name = x.name) : putF (updF fs x.name h) x = putF fs x := by
  unfold putF
  rw [delF_updF fs x.name h hn]
def oldF (fs : List Fl) (name : ByteArray) : ByteArray × Int := match getF fs name with | none => (⟨#[]⟩, 0) | some f => (f.data, f.kept)
def appendC (d : DS) (name : ByteArray) (data : List ByteArray) : Int :=
  if (beginD d [name]).2 = 0 then fitsD (beginD d [name]).1 name ((oldF d.files name).1.size + sumS data : Nat) ((oldF d.files name).1.size : Nat) else (beginD d [name]).2
/-- What stands behind Append. -/
def AppQ (w : World) (g b : Nat) (d d1 : DS) (name : ByteArray) (data : List ByteArray) (ac : Int) (e : Ending) (w' : World) : Prop :=
  ∃ d', e = .returned (.int .i64 ac) ∧ Turn w g b d d' w' ∧ (ac ≠ 0 → d' = d1) ∧ (ac = 0 → ∃ blk, d' = { d1 with files := putF d1.files ⟨name, blk, (oldF d1.files name).1 ++ catS data, (oldF d1.files name).2⟩ })
def AppPost (w : World) (g b : Nat) (d : DS) (name : ByteArray) (data : List ByteArray) : Ending → World → Prop := AppQ w g b d (beginD d [name]).1 name data (appendC d name data)
theorem Turn.fresh {w w3 : World} {g b : Nat} {d d1 : DS} (h : Turn w g b d d1 w3) {k i : Nat} {v : Value} (hk : w.heap.size ≤ k) (hf : ¬ foot g b d1 k) : Turn w g b d d1 (w3.setCell ⟨k, i, none⟩ v) := by
  have hs : Kp (fun j => j = k) w3 (w3.setCell ⟨k, i, none⟩ v) := Kp.of_set rfl
  refine ⟨h.dk.kp hs (fun j hj e => hf (e ▸ hj)), ⟨hs.os.trans h.kp.os, hs.tape.trans h.kp.tape, hs.output.trans h.kp.output, Nat.le_trans h.kp.size hs.size, fun j hj hn => (hs.block j (Nat.lt_of_lt_of_le hj h.kp.size) (by omega)).trans (h.kp.block j hj hn)⟩, h.new⟩
theorem Turn.andPut {w w4 w5 : World} {g b n : Nat} {d d4 : DS} (h : Turn w g b d d4 w4) (x : Fl) (hx : w4.heap[x.blk]? = some (.cells (fileCells x) 120 (0, 0))) (hd : ∀ f ∈ d4.files, f.name ≠ x.name → f.blk ≠ x.blk) (ho : OwnF w5 b n (putF d4.files x)) (ht : w4.mapTurned w5 b) (hF : foot g b d4 x.blk ∨ w.heap.size ≤ x.blk) : Turn w g b d { d4 with files := putF d4.files x } w5 := by
  obtain ⟨p1, p2, p3⟩ := Turn.put h.dk x hx hd ho ht
  refine ⟨p1, ⟨p2.os.trans h.kp.os, p2.tape.trans h.kp.tape, p2.output.trans h.kp.output, Nat.le_trans h.kp.size p2.size, fun i hi hn => (p2.block i (Nat.lt_of_lt_of_le hi h.kp.size) (fun hk => ?_)).trans (h.kp.block i hi hn)⟩, fun k hk => ?_⟩
  · rcases h.new i hk with h1 | h1
    · exact hn h1
    · omega
  · rcases p3 k hk with h1 | h1
    · exact h.new k h1
    · subst h1
      rcases hF with h1 | h1
      · exact h.new _ h1
      · exact .inr h1
theorem some_hd {fs : List Fl} {f : Fl} {name s : ByteArray} (hn : (fs.map (·.blk)).Nodup) (hf : f ∈ fs ∧ f.name = name) {y : Fl} (hy : y ∈ updF fs f.name (fun x => { x with data := s })) (hne : y.name ≠ name) (e : y.blk = f.blk) : False := by
  obtain ⟨x, hx, rfl⟩ := List.mem_map.1 hy
  have hb : (if sameN x.name f.name = true then ({ x with data := s } : Fl) else x).blk = x.blk := by split <;> rfl
  have hm : (if sameN x.name f.name = true then ({ x with data := s } : Fl) else x).name = x.name := by split <;> rfl
  rw [hb] at e
  rw [hm] at hne
  have e2 := nodup_one hn hx hf.1 e
  exact hne (by rw [e2]; exact hf.2)
theorem some_mem {fs : List Fl} {f : Fl} {s : ByteArray} (hf : f ∈ fs) : ∃ y ∈ updF fs f.name (fun x => { x with data := s }), y.blk = f.blk := ⟨{ f with data := s }, List.mem_map.2 ⟨f, hf, by rw [if_pos (sameN_self _)]⟩, rfl⟩
theorem some_eq {d1 : DS} {f : Fl} {name s : ByteArray} (hf : f.name = name) : ({ ({ d1 with files := updF d1.files f.name (fun x => { x with data := s }) } : DS) with files := putF (updF d1.files f.name (fun x => { x with data := s })) ⟨name, f.blk, s, f.kept⟩ } : DS) = { d1 with files := putF d1.files ⟨name, f.blk, s, f.kept⟩ } := by
  subst hf
  rw [putF_updF d1.files ⟨f.name, f.blk, s, f.kept⟩ (fun x => { x with data := s }) (fun _ => rfl)]
theorem useD_room (d : DS) : (useD d).1.room = d.room := by
  unfold useD
  split
  · rfl
  · split
    · rfl
    · split <;> rfl
set_option maxHeartbeats 4000000 in
set_option maxRecDepth 100000 in
theorem Append_calls (g b : Nat) (d : DS) (name : ByteArray) (A : Option Addr) (c : Nat) (data : List ByteArray) (w : World) (h : Dk w g b d) (hg : Good d) (hg1 : Good (beginD d [name]).1) (hC : Kd.C Kd.string w A data.length data) (hA : ∀ ad, A = some ad → 0 < data.length → ¬ foot g b d ad.block) (hcc : data.length ≤ c) (hln : data.length ≤ 1000000) (hsm : sumS data ≤ 1099511627776) :
    Calls Tryz.prog 59 #[.pointer (some ⟨g, 0, none⟩), .string name, .slice A data.length c] w (AppPost w g b d name data) := by
  have HT0 := Aside0.mk (Turn.allocd h (.cells #[.string name] 9))
  have HTC := Aside0.mk (begin_calls g b d (some ⟨w.heap.size, 0, none⟩) 1 [name] (w.alloc (.cells #[.string name] 9)) HT0.out.dk hg.fair (strC_blk (l := [name]) (blk_new w _) (by simp)) (fun ad e _ hk => by
    injection e with e
    subst e
    exact absurd (h.lt _ hk) (Nat.lt_irrefl _)))
  have HKC := Aside0.mk (fun w' (hk : Kp (foot g b d) w w') => strC_kp hC hk hA)
  obtain ⟨r, hr⟩ : ∃ r, r = (beginD d [name]).2 := ⟨_, rfl⟩
  obtain ⟨d1, hd1⟩ : ∃ d1, d1 = (beginD d [name]).1 := ⟨_, rfl⟩
  have HM : Aside0 (r = 0 → name.size ≤ 20) := ⟨fun h0 => (mayN_size (beginD_may (hr ▸ h0) name List.mem_cons_self)).2⟩
  have HF : Aside0 (d1.files = d.files) := ⟨by rw [hd1]; exact beginD_files d _⟩
  have HG : Aside0 (Good d1) := ⟨by rw [hd1]; exact hg1⟩
  obtain ⟨ac, hac⟩ : ∃ ac, ac = appendC d name data := ⟨_, rfl⟩
  have HAC : Aside0 (ac = if r = 0 then fitsD d1 name ((oldF d1.files name).1.size + sumS data : Nat) ((oldF d1.files name).1.size : Nat) else r) := ⟨by rw [hac, hr, hd1, beginD_files]; rfl⟩
  rw [← hr, ← hd1] at HTC
  unfold AppPost
  rw [← hac, ← hd1]
  have HJ := Aside0.mk (join_cat data (by omega) (by omega))
  have HSM := Aside0.mk hsm
  have HCC := Aside0.mk hcc
  obtain ⟨n, hn⟩ : ∃ n, n = data.length := ⟨_, rfl⟩
  have HN := Aside0.mk hn
  rw [← hn] at HKC HCC ⊢
  have hnb : n ≤ 1000000 := by omega
  clear h hg hg1 hC hA hcc hln hsm hr hd1 hac hn
  go_enter Tryz.func59, Tryz.ntmps59
  go_wp2_with fail
  refine HTC.out.mono ?_
  rintro e w1 ⟨rfl, ht⟩
  have HT := Aside0.mk (HT0.out.trans ht)
  clear ht
  by_cases h0 : r = 0
  · subst h0
    have hs := HM.out rfl
    have h5 := HT.out.dk.c5
    have HAX : Aside0 (ac = fitsD d1 name ((oldF d1.files name).1.size + sumS data : Nat) ((oldF d1.files name).1.size : Nat)) := ⟨by rw [HAC.out, if_pos rfl]⟩
    clear HM HAC HTC
    cases hgf : getF d1.files name with
    | none =>
      have hl := HT.out.dk.look_none (by omega) hgf
      have hcf : (w1.alloc (.cells #[.string ⟨#[]⟩, .int .i64 0] 120)).cell? ⟨w1.heap.size, 0, none⟩ = some (.string ⟨#[]⟩) := blk_cell (blk_new w1 _) 0
      have hff : (w1.alloc (.cells #[.string ⟨#[]⟩, .int .i64 0] 120)).frozen? ⟨w1.heap.size, 0, none⟩ = false := blk_frozen (blk_new w1 _) 0
      have hlt : w1.heap.size < (w1.alloc (.cells #[.string ⟨#[]⟩, .int .i64 0] 120)).heap.size := by rw [alloc_size]; omega
      have hblk : (w1.alloc (.cells #[.string ⟨#[]⟩, .int .i64 0] 120)).heap[w1.heap.size]? = some (.cells #[.string ⟨#[]⟩, .int .i64 0] 120 (0, 0)) := blk_new w1 _
      have HT9 := Aside0.mk (HT.out.trans (Turn.allocd HT.out.dk (.cells #[.string ⟨#[]⟩, .int .i64 0] 120)))
      have HTW : Aside0 (w1.heap.size = w1.heap.size) := ⟨rfl⟩
      have HFAR : Aside0 ((∀ y ∈ d1.files, y.name ≠ name → y.blk ≠ w1.heap.size) ∧ ¬ foot g b d1 w1.heap.size ∧ w.heap.size ≤ w1.heap.size) := ⟨fun y hy _ e => absurd (HT.out.dk.lt y.blk (.inr (.inr ⟨y, hy, rfl⟩))) (by omega), fun hk => absurd (HT.out.dk.lt _ hk) (Nat.lt_irrefl _), HT.out.kp.size⟩
      have HDK : Aside0 (Dk (w1.alloc (.cells #[.string ⟨#[]⟩, .int .i64 0] 120)) g b d1) := ⟨HT9.out.dk⟩
      have HKW : Aside0 (Kp (foot g b d) w (w1.alloc (.cells #[.string ⟨#[]⟩, .int .i64 0] 120))) := ⟨HT9.out.kp⟩
      have HGF := Aside0.mk hgf
      have HO : Aside0 (oldF d1.files name = ((⟨#[]⟩ : ByteArray), 0)) := ⟨by unfold oldF; rw [hgf]⟩
      have HOS : Aside0 (((⟨#[]⟩ : ByteArray)).size ≤ 1048576) := ⟨by decide⟩
      have hos := HOS.out
      clear hgf
      go_wp2_with fail
      go_loopg [9, 11, 37] (n + 1) (fun kq v9 _ v37 w' => ∃ (k z : Nat), v37 = .int .i64 k ∧ v9 = .int .i64 z ∧ Aside0 (n < k + kq ∧ z = ((⟨#[]⟩ : ByteArray)).size + sumS (data.take k)) ∧ k ≤ n ∧ z ≤ 1048576 ∧ Aside0 ((w1.alloc (.cells #[.string ⟨#[]⟩, .int .i64 0] 120)) = w'))
      case atStart => exact ⟨0, ((⟨#[]⟩ : ByteArray)).size, rfl, rfl, ⟨by omega, by simp [sumS]⟩, Nat.zero_le _, HOS.out, ⟨rfl⟩⟩
      case round =>
        obtain ⟨k, z, rfl, rfl, HK, hk, hz, HW⟩ := hrel
        obtain ⟨rfl⟩ := HW
        cases gk with
        | zero => exact absurd HK.out.1 (by omega)
        | succ k1 =>
          by_cases hkn : k < n
          · have hkl : k < data.length := by have := HN.out; omega
            obtain ⟨ad, e0, hx⟩ := Kd.at_string (HKC.out _ HKW.out) (k : Int) (by omega) (by have := HN.out; omega)
            cases e0
            simp only [Int.toNat_natCast] at hx
            have HE := Aside0.mk (sumS_take data k hkl)
            rw [rdS_at data k hkl] at hx
            obtain ⟨s, hsx⟩ : ∃ s, s = data[k] := ⟨_, rfl⟩
            rw [← hsx] at hx HE
            have HLE := Aside0.mk (sumS_take_le data (k + 1))
            have hss : s.size ≤ 1099511627776 := by have := HE.out; have := HLE.out; have := HSM.out; omega
            clear hsx
            by_cases hbig : (1048576 : Int) - z < s.size
            · have HA5 : Aside0 (ac = 5) := ⟨by
                rw [HAX.out, HO.out]
                unfold fitsD
                rw [if_pos (.inl (by have := HK.out.2; have := HE.out; have := HLE.out; show (1048576 : Int) < ((((⟨#[]⟩ : ByteArray)).size + sumS data : Nat) : Int); omega))]⟩
              go_wp2
              go_ret
              exact ⟨d1, by rw [HA5.out]; rfl, HT9.out, fun _ => rfl, fun h1 => absurd (HA5.out ▸ h1) (by decide)⟩
            · go_wp2
              go_roundg k1
              case measure => have := HK.out.1; omega
              case rel => exact ⟨k + 1, z + s.size, by go_num, by go_num, ⟨by have := HK.out.1; omega, by have := HK.out.2; have := HE.out; omega⟩, by omega, by omega, ⟨rfl⟩⟩
          · have e : k = n := by omega
            subst e
            have HZ : Aside0 (z = ((⟨#[]⟩ : ByteArray)).size + sumS data) := ⟨by have := HK.out.2; rw [List.take_of_length_le (by rw [HN.out]; exact Nat.le_refl _)] at this; exact this⟩
            have HFC := Aside0.mk (fits_calls g b d1 name (z : Int) (((⟨#[]⟩ : ByteArray)).size : Int) _ HDK.out HG.out (by omega) (by omega) (by omega) (by omega) (by omega))
            have HA6 : Aside0 (ac = fitsD d1 name (z : Int) (((⟨#[]⟩ : ByteArray)).size : Int)) := ⟨by rw [HAX.out, HO.out, HZ.out]⟩
            clear HAX HK
            generalize fitsD d1 name (z : Int) (((⟨#[]⟩ : ByteArray)).size : Int) = fc at HFC HA6
            go_wp2_with fail
            refine HFC.out.mono ?_
            rintro e w2 ⟨rfl, hb2⟩
            have HB2 := Aside0.mk hb2
            have hcf2 := (hb2.cell (p := ⟨w1.heap.size, 0, none⟩) hlt).trans hcf
            have hff2 := (hb2.frozen (p := ⟨w1.heap.size, 0, none⟩) hlt).trans hff
            have hlt2 := Nat.lt_of_lt_of_le hlt hb2.size
            have hblk2 := (hb2.block w1.heap.size hlt).trans hblk
            have HBK2 := Aside0.mk hblk2
            clear hb2 hblk2
            by_cases hfc : fc = 0
            · subst hfc
              have h52 := (HDK.out.below HB2.out).c5
              have HJC := Aside0.mk (fun (w9 : World) (hb : Below w2.heap.size w2 w9) => strings_Join.calls A c data ⟨#[]⟩ (catS data) w9 (Kd.C_below (Kd.C_below (by have h9 := HKC.out _ HKW.out; rwa [HN.out] at h9) HB2.out) hb) (by rw [← HN.out]; exact HCC.out) HJ.out)
              rw [← HN.out] at HJC
              have hadd : ¬ 9223372036854775807 < ((⟨#[]⟩ : ByteArray)).size + (catS data).size := by rw [catS_size]; have := HSM.out; omega
              have hadd2 : ¬ 9223372036854775807 < (catS data).size := by rw [catS_size]; have := HSM.out; omega
              have hcf20 : w2.drew.cell? ⟨w1.heap.size, 0, none⟩ = some (.string (⟨#[]⟩ : ByteArray)) := hcf2
              have hff20 : w2.drew.frozen? ⟨w1.heap.size, 0, none⟩ = false := hff2
              go_wp2_with fail
              go_region_law (go_simp; go_at_call 50; refine (HJC.out _ (below_drew (Below.refl _ _))).mono ?_; rintro e w3 ⟨rfl, hb3⟩; have hcf3 := (hb3.cell (p := ⟨w1.heap.size, 0, none⟩) hlt2).trans hcf20; have hff3 := (hb3.frozen (p := ⟨w1.heap.size, 0, none⟩) hlt2).trans hff20; have hlt3 := Nat.lt_of_lt_of_le hlt2 hb3.size; have HB3 := Aside0.mk (below_step (below_drew (Below.refl w2.heap.size w2)) hb3); clear hb3)
              all_goals
                have HT4 := Aside0.mk (Turn.fresh ((HT9.out.trans (Turn.below HDK.out HB2.out)).trans (Turn.below (HDK.out.below HB2.out) HB3.out)) (k := w1.heap.size) (i := 0) (v := .string ((⟨#[]⟩ : ByteArray) ++ catS data)) HFAR.out.2.2 HFAR.out.2.1)
                have HBK4 : Aside0 ((w3.setCell ⟨w1.heap.size, 0, none⟩ (.string ((⟨#[]⟩ : ByteArray) ++ catS data))).heap[w1.heap.size]? = some (.cells (fileCells ⟨name, w1.heap.size, (⟨#[]⟩ : ByteArray) ++ catS data, 0⟩) 120 (0, 0))) := ⟨blk_set ((HB3.out.block w1.heap.size hlt2).trans HBK2.out) 0 _⟩
                have HLEN : Aside0 (d1.files.length < maxLen) := ⟨by have := HG.out.count; unfold maxLen; omega⟩
                have h54 := HT4.out.dk.c5
                have HB3' := HB3.out
                generalize (w3.setCell ⟨w1.heap.size, 0, none⟩ (.string ((⟨#[]⟩ : ByteArray) ++ catS data))) = w4 at HT4 HBK4 h54 ⊢
                go_wp2_with (at_mapUpdate; refine wpList_mapUpdate_in _ rfl _ _ _ 92 rfl 9 115 keyS Tryz.underlying92 rP b (d1.files).length (mapD (d1.files)) rfl HT4.out.dk.own HLEN.out _ _ (keyN name) rfl rfl (keyOfS (by omega)) (.lit (.int .i64 (w1.heap.size : Int))) [] rfl ?_; intro w5 hown5 hturn5)
                have hput : (mapD (d1.files)).put (keyN name) (.lit (.int .i64 (w1.heap.size : Int))) = mapD (putF (d1.files) ⟨name, w1.heap.size, (⟨#[]⟩ : ByteArray) ++ catS data, 0⟩) := mapD_put (d1.files) ⟨name, w1.heap.size, (⟨#[]⟩ : ByteArray) ++ catS data, 0⟩
                rw [hput] at hown5
                have HT5 := Aside0.mk (Turn.andPut HT4.out ⟨name, w1.heap.size, (⟨#[]⟩ : ByteArray) ++ catS data, 0⟩ HBK4.out HFAR.out.1 hown5 hturn5 (.inr HFAR.out.2.2))
                clear hown5 hturn5 hput
                go_wp2
                go_ret
                refine ⟨_, by rw [HA6.out]; rfl, HT5.out, fun h1 => absurd HA6.out h1, fun _ => ⟨w1.heap.size, ?_⟩⟩
                rw [HO.out]
                skip
            · have hb0 : (fc == 0) = false := beq_eq_false_iff_ne.2 hfc
              have hb1 : (fc != 0) = true := bne_iff_ne.2 hfc
              have HNZ := Aside0.mk hfc
              clear hfc
              go_wp2
              go_ret
              exact ⟨d1, by rw [HA6.out]; rfl, HT9.out.trans (Turn.below HDK.out HB2.out), fun _ => rfl, fun h1 => absurd (HA6.out ▸ h1) HNZ.out⟩
    | some f =>
      have hl := HT.out.dk.look_some (by omega) hgf
      have hfm := getF_some hgf
      have hcf : w1.cell? ⟨f.blk, 0, none⟩ = some (.string f.data) := blk_cell (HT.out.dk.file f hfm.1) 0
      have hff : w1.frozen? ⟨f.blk, 0, none⟩ = false := blk_frozen (HT.out.dk.file f hfm.1) 0
      have hlt := blk_lt (HT.out.dk.file f hfm.1)
      have hblk := HT.out.dk.file f hfm.1
      have HFM := Aside0.mk hfm
      clear hfm
      have HDK : Aside0 (Dk w1 g b d1) := ⟨HT.out.dk⟩
      have HKW : Aside0 (Kp (foot g b d) w w1) := ⟨HT.out.kp⟩
      have HGF := Aside0.mk hgf
      have HO : Aside0 (oldF d1.files name = (f.data, f.kept)) := ⟨by unfold oldF; rw [hgf]⟩
      have HOS : Aside0 ((f.data).size ≤ 1048576) := ⟨(HG.out.each f HFM.out.1).2.2.1⟩
      have hos := HOS.out
      clear hgf
      go_wp2_with fail
      go_loopg [9, 11, 37] (n + 1) (fun kq v9 _ v37 w' => ∃ (k z : Nat), v37 = .int .i64 k ∧ v9 = .int .i64 z ∧ Aside0 (n < k + kq ∧ z = (f.data).size + sumS (data.take k)) ∧ k ≤ n ∧ z ≤ 1048576 ∧ Aside0 (w1 = w'))
      case atStart => exact ⟨0, (f.data).size, rfl, rfl, ⟨by omega, by simp [sumS]⟩, Nat.zero_le _, HOS.out, ⟨rfl⟩⟩
      case round =>
        obtain ⟨k, z, rfl, rfl, HK, hk, hz, HW⟩ := hrel
        obtain ⟨rfl⟩ := HW
        cases gk with
        | zero => exact absurd HK.out.1 (by omega)
        | succ k1 =>
          by_cases hkn : k < n
          · have hkl : k < data.length := by have := HN.out; omega
            obtain ⟨ad, e0, hx⟩ := Kd.at_string (HKC.out _ HKW.out) (k : Int) (by omega) (by have := HN.out; omega)
            cases e0
            simp only [Int.toNat_natCast] at hx
            have HE := Aside0.mk (sumS_take data k hkl)
            rw [rdS_at data k hkl] at hx
            obtain ⟨s, hsx⟩ : ∃ s, s = data[k] := ⟨_, rfl⟩
            rw [← hsx] at hx HE
            have HLE := Aside0.mk (sumS_take_le data (k + 1))
            have hss : s.size ≤ 1099511627776 := by have := HE.out; have := HLE.out; have := HSM.out; omega
            clear hsx
            by_cases hbig : (1048576 : Int) - z < s.size
            · have HA5 : Aside0 (ac = 5) := ⟨by
                rw [HAX.out, HO.out]
                unfold fitsD
                rw [if_pos (.inl (by have := HK.out.2; have := HE.out; have := HLE.out; show (1048576 : Int) < (((f.data).size + sumS data : Nat) : Int); omega))]⟩
              go_wp2
              go_ret
              exact ⟨d1, by rw [HA5.out]; rfl, HT.out, fun _ => rfl, fun h1 => absurd (HA5.out ▸ h1) (by decide)⟩
            · go_wp2
              go_roundg k1
              case measure => have := HK.out.1; omega
              case rel => exact ⟨k + 1, z + s.size, by go_num, by go_num, ⟨by have := HK.out.1; omega, by have := HK.out.2; have := HE.out; omega⟩, by omega, by omega, ⟨rfl⟩⟩
          · have e : k = n := by omega
            subst e
            have HZ : Aside0 (z = (f.data).size + sumS data) := ⟨by have := HK.out.2; rw [List.take_of_length_le (by rw [HN.out]; exact Nat.le_refl _)] at this; exact this⟩
            have HFC := Aside0.mk (fits_calls g b d1 name (z : Int) ((f.data).size : Int) _ HDK.out HG.out (by omega) (by omega) (by omega) (by omega) (by omega))
            have HA6 : Aside0 (ac = fitsD d1 name (z : Int) ((f.data).size : Int)) := ⟨by rw [HAX.out, HO.out, HZ.out]⟩
            clear HAX HK
            generalize fitsD d1 name (z : Int) ((f.data).size : Int) = fc at HFC HA6
            go_wp2_with fail
            refine HFC.out.mono ?_
            rintro e w2 ⟨rfl, hb2⟩
            have HB2 := Aside0.mk hb2
            have hcf2 := (hb2.cell (p := ⟨f.blk, 0, none⟩) hlt).trans hcf
            have hff2 := (hb2.frozen (p := ⟨f.blk, 0, none⟩) hlt).trans hff
            have hlt2 := Nat.lt_of_lt_of_le hlt hb2.size
            have hblk2 := (hb2.block f.blk hlt).trans hblk
            have HBK2 := Aside0.mk hblk2
            clear hb2 hblk2
            by_cases hfc : fc = 0
            · subst hfc
              have h52 := (HDK.out.below HB2.out).c5
              have HJC := Aside0.mk (fun (w9 : World) (hb : Below w2.heap.size w2 w9) => strings_Join.calls A c data ⟨#[]⟩ (catS data) w9 (Kd.C_below (Kd.C_below (by have h9 := HKC.out _ HKW.out; rwa [HN.out] at h9) HB2.out) hb) (by rw [← HN.out]; exact HCC.out) HJ.out)
              rw [← HN.out] at HJC
              have hadd : ¬ 9223372036854775807 < (f.data).size + (catS data).size := by rw [catS_size]; have := HSM.out; omega
              have hadd2 : ¬ 9223372036854775807 < (catS data).size := by rw [catS_size]; have := HSM.out; omega
              have hcf20 : w2.drew.cell? ⟨f.blk, 0, none⟩ = some (.string f.data) := hcf2
              have hff20 : w2.drew.frozen? ⟨f.blk, 0, none⟩ = false := hff2
              go_wp2_with fail
              go_region_law (go_simp; go_at_call 50; refine (HJC.out _ (below_drew (Below.refl _ _))).mono ?_; rintro e w3 ⟨rfl, hb3⟩; have hcf3 := (hb3.cell (p := ⟨f.blk, 0, none⟩) hlt2).trans hcf20; have hff3 := (hb3.frozen (p := ⟨f.blk, 0, none⟩) hlt2).trans hff20; have hlt3 := Nat.lt_of_lt_of_le hlt2 hb3.size; have HB3 := Aside0.mk (below_step (below_drew (Below.refl w2.heap.size w2)) hb3); clear hb3)
              all_goals
                have HT4 := Aside0.mk (((HT.out.trans (Turn.below HDK.out HB2.out)).trans (Turn.below (HDK.out.below HB2.out) HB3.out)).trans (Turn.file ((HDK.out.below HB2.out).below HB3.out) HG.out.names HFM.out.1 (fun x => { x with data := f.data ++ catS data }) 0 (.string (f.data ++ catS data)) (fun _ => rfl) (fun _ => rfl) rfl))
                have HBK4 : Aside0 ((w3.setCell ⟨f.blk, 0, none⟩ (.string (f.data ++ catS data))).heap[f.blk]? = some (.cells (fileCells ⟨name, f.blk, f.data ++ catS data, f.kept⟩) 120 (0, 0))) := ⟨blk_set ((HB3.out.block f.blk hlt2).trans HBK2.out) 0 _⟩
                have HLEN : Aside0 ((updF d1.files f.name (fun x => { x with data := f.data ++ catS data })).length < maxLen) := ⟨by rw [updF_len]; have := HG.out.count; unfold maxLen; omega⟩
                have h54 := HT4.out.dk.c5
                have HB3' := HB3.out
                generalize (w3.setCell ⟨f.blk, 0, none⟩ (.string (f.data ++ catS data))) = w4 at HT4 HBK4 h54 ⊢
                go_wp2_with (at_mapUpdate; refine wpList_mapUpdate_in _ rfl _ _ _ 92 rfl 9 115 keyS Tryz.underlying92 rP b (updF d1.files f.name (fun x => { x with data := f.data ++ catS data })).length (mapD (updF d1.files f.name (fun x => { x with data := f.data ++ catS data }))) rfl HT4.out.dk.own HLEN.out _ _ (keyN name) rfl rfl (keyOfS (by omega)) (.lit (.int .i64 (f.blk : Int))) [] rfl ?_; intro w5 hown5 hturn5)
                have hput : (mapD (updF d1.files f.name (fun x => { x with data := f.data ++ catS data }))).put (keyN name) (.lit (.int .i64 (f.blk : Int))) = mapD (putF (updF d1.files f.name (fun x => { x with data := f.data ++ catS data })) ⟨name, f.blk, f.data ++ catS data, f.kept⟩) := mapD_put (updF d1.files f.name (fun x => { x with data := f.data ++ catS data })) ⟨name, f.blk, f.data ++ catS data, f.kept⟩
                rw [hput] at hown5
                have HT5 := Aside0.mk (Turn.andPut HT4.out ⟨name, f.blk, f.data ++ catS data, f.kept⟩ HBK4.out (fun y hy hne e => some_hd HDK.out.nodup HFM.out hy hne e) hown5 hturn5 (.inl (.inr (.inr (some_mem HFM.out.1)))))
                clear hown5 hturn5 hput
                go_wp2
                go_ret
                refine ⟨_, by rw [HA6.out]; rfl, HT5.out, fun h1 => absurd HA6.out h1, fun _ => ⟨f.blk, ?_⟩⟩
                rw [HO.out]
                exact some_eq HFM.out.2
            · have hb0 : (fc == 0) = false := beq_eq_false_iff_ne.2 hfc
              have hb1 : (fc != 0) = true := bne_iff_ne.2 hfc
              have HNZ := Aside0.mk hfc
              clear hfc
              go_wp2
              go_ret
              exact ⟨d1, by rw [HA6.out]; rfl, HT.out.trans (Turn.below HDK.out HB2.out), fun _ => rfl, fun h1 => absurd (HA6.out ▸ h1) HNZ.out⟩
  · have hb0 : (r == 0) = false := beq_eq_false_iff_ne.2 h0
    have hb1 : (r != 0) = true := bne_iff_ne.2 h0
    have HX : Aside0 (ac = r) := ⟨by rw [HAC.out, if_neg h0]⟩
    have HNZ := Aside0.mk h0
    clear HAC HM h0
    go_wp2
    go_ret
    exact ⟨d1, by rw [HX.out]; rfl, HT.out, fun _ => rfl, fun h1 => absurd (HX.out ▸ h1) HNZ.out⟩
end Go.Proofs.YtcbbdkennmopdaaGreatDoor.PK
/- disk: Put. -/
namespace Go.Proofs.YtcbbdkennmopdaaGreatDoor.PK
open Go.RowKit Go.Proofs.YtcbbdkennmopdaaGreatDoorW.PrintWords Go.Proofs.YtcbbdkennmopdaaGreatDoorW.PrintLast Go.Proofs.YtcbbdkennmopdaaGreatDoorW.PrintMore
open Go.Maps
def putC (d : DS) (name data : ByteArray) : Int := if mayN name = true then fitsD d name (data.size : Int) ((oldF d.files name).1.size : Nat) else 1
end Go.Proofs.YtcbbdkennmopdaaGreatDoor.PK
/- disk: Crash. -/
namespace Go.Proofs.YtcbbdkennmopdaaGreatDoor.PK
open Go.RowKit Go.Proofs.YtcbbdkennmopdaaGreatDoorW.PrintWords Go.Proofs.YtcbbdkennmopdaaGreatDoorW.PrintLast Go.Proofs.YtcbbdkennmopdaaGreatDoorW.PrintMore
open Go.Maps
theorem intC_kp {S : Nat → Prop} {w w' : World} {A : Option Addr} {xs : List Int} (h : Kd.C (Kd.int .i64) w A xs.length xs) (hk : Kp S w w') (hA : ∀ ad, A = some ad → 0 < xs.length → ¬ S ad.block) : Kd.C (Kd.int .i64) w' A xs.length xs := by
  refine Kd.C_of_reads (d := (0 : Int)) ?_
  have hr := Kd.reads_of_C (d := (0 : Int)) h
  refine ⟨hr.1, hr.2.1, fun hn => ?_⟩
  obtain ⟨ad, rfl, hc⟩ := hr.2.2 hn
  refine ⟨ad, rfl, fun j hj => ?_⟩
  have h1 := hc j hj
  have hlt := World.block_lt_of_cell? w _ h1
  have hbl : (ad.add j).block = ad.block := by unfold Addr.add; split <;> rfl
  rw [hbl] at hlt
  have hs := hk.block ad.block hlt (hA ad rfl hn)
  rw [← h1]
  unfold World.cell?
  rw [hbl, hs]
def keepN (x : Fl) (more : Int) : Int := x.kept + min more ((x.data.size : Int) - x.kept)
def crashFl (more : Int) (x : Fl) : Fl := { x with data := x.data.extract 0 (keepN x more).toNat, kept := keepN x more }
def moreK (keep : List Int) (i : Nat) : Int := if i < keep.length then max (rd keep (i : Int)) 0 else 0
def crashK (fs : List Fl) (keep : List Int) (k : Nat) : List Fl := fs.mapIdx fun i x => if i < k then crashFl (moreK keep i) x else x
theorem crashK_len (fs : List Fl) (keep : List Int) (k : Nat) : (crashK fs keep k).length = fs.length := List.length_mapIdx
theorem crashK_get (fs : List Fl) (keep : List Int) (k i : Nat) (h : i < (crashK fs keep k).length) (h2 : i < fs.length) : (crashK fs keep k)[i] = if i < k then crashFl (moreK keep i) fs[i] else fs[i] := by
  exact List.getElem_mapIdx
theorem crashK_zero (fs : List Fl) (keep : List Int) : crashK fs keep 0 = fs := by
  apply List.ext_getElem (crashK_len _ _ _)
  intro i h1 h2
  rw [crashK_get fs keep 0 i h1 h2, if_neg (Nat.not_lt_zero _)]
theorem crashK_name (fs : List Fl) (keep : List Int) (k i : Nat) (h : i < (crashK fs keep k).length) (h2 : i < fs.length) : (crashK fs keep k)[i].name = fs[i].name := by
  rw [crashK_get fs keep k i h h2]
  split <;> rfl
theorem crashK_names (fs : List Fl) (keep : List Int) (k : Nat) : (crashK fs keep k).map (·.name) = fs.map (·.name) := by
  apply List.ext_getElem (by rw [List.length_map, List.length_map, crashK_len])
  intro i h1 h2
  rw [List.getElem_map, List.getElem_map]
  exact crashK_name fs keep k i (by simpa using h1) (by simpa using h2)
theorem crashK_step (fs : List Fl) (keep : List Int) (k : Nat) (hn : (fs.map (·.name)).Nodup) (hk : k < fs.length) : updF (crashK fs keep k) fs[k].name (crashFl (moreK keep k)) = crashK fs keep (k + 1) := by
  apply List.ext_getElem (by rw [updF_len, crashK_len, crashK_len])
  intro i h1 h2
  have hi : i < fs.length := by rw [crashK_len] at h2; exact h2
  have h3 : i < (crashK fs keep k).length := by rw [crashK_len]; exact hi
  have e : (updF (crashK fs keep k) fs[k].name (crashFl (moreK keep k)))[i] = if sameN (crashK fs keep k)[i].name fs[k].name = true then crashFl (moreK keep k) (crashK fs keep k)[i] else (crashK fs keep k)[i] := by
    exact List.getElem_map _
  rw [e, crashK_name fs keep k i h3 hi, crashK_get fs keep (k + 1) i h2 hi, crashK_get fs keep k i h3 hi]
  by_cases hik : i = k
  · subst hik
    rw [if_pos (sameN_self _), if_neg (Nat.lt_irrefl _), if_pos (Nat.lt_succ_self _)]
  · have hne : sameN fs[i].name fs[k].name = false := sameN_ne.2 fun e => by
      have h5 := List.pairwise_iff_getElem.1 hn
      rcases Nat.lt_or_ge i k with h6 | h6
      · exact h5 i k (by simpa using hi) (by simpa using hk) h6 (by simpa using e)
      · exact h5 k i (by simpa using hk) (by simpa using hi) (by omega) (by simpa using e.symm)
    rw [hne, if_neg (by decide)]
    by_cases h6 : i < k
    · rw [if_pos h6, if_pos (by omega)]
    · rw [if_neg h6, if_neg (by omega)]
def crashD (d : DS) (keep : List Int) : DS := { d with off := false, armed := false, files := crashK d.files keep d.files.length }
theorem getF_at {fs : List Fl} (hn : (fs.map (·.name)).Nodup) (k : Nat) (hk : k < fs.length) : getF fs fs[k].name = some fs[k] := by
  cases hg : getF fs fs[k].name with
  | none => exact absurd rfl (getF_none hg fs[k] (List.getElem_mem hk))
  | some f =>
    have h1 := getF_some hg
    rw [nodup_one hn h1.1 (List.getElem_mem hk) h1.2]
theorem namesD_all (d : DS) : namesD d [] = namesF d.files := by
  unfold namesD
  exact List.filter_eq_self.2 fun s _ => rfl
set_option maxHeartbeats 4000000 in
set_option maxRecDepth 100000 in
theorem Crash_calls (g b : Nat) (d : DS) (A : Option Addr) (c : Nat) (keep : List Int) (w : World) (h : Dk w g b d) (hg : Good d) (ha : Asc d.files) (hC : Kd.C (Kd.int .i64) w A keep.length keep) (hA : ∀ ad, A = some ad → 0 < keep.length → ¬ foot g b d ad.block) :
    Calls Tryz.prog 30 #[.pointer (some ⟨g, 0, none⟩), .slice A keep.length c] w fun e w' => e = .returned (.tuple #[]) ∧ Turn w g b d (crashD d keep) w' := by
  have h0 := h.c0
  have h1 := h.c1
  have f0 := h.frozen 0
  have f1 := h.frozen 1
  have hlt := h.lt g (.inl rfl)
  have t1 := Turn.set (d1 := { d with off := false }) h 0 (.bool false) rfl rfl
  have HT2 := Aside0.mk (t1.trans (Turn.set (d1 := { ({ d with off := false } : DS) with armed := false }) t1.dk 1 (.bool false) rfl rfl))
  have HKC := Aside0.mk (fun w' (hk : Kp (foot g b d) w w') => intC_kp hC hk hA)
  have hmax := Kd.C_max hC
  have HG := Aside0.mk hg
  have HAS := Aside0.mk ha
  obtain ⟨d2, hd2⟩ : ∃ d2 : DS, d2 = { ({ d with off := false } : DS) with armed := false } := ⟨_, rfl⟩
  have HF : Aside0 (d2.files = d.files ∧ crashD d keep = { d2 with files := crashK d2.files keep d2.files.length }) := ⟨by rw [hd2]; exact ⟨rfl, rfl⟩⟩
  have hd2' : ({ ({ d with off := false } : DS) with armed := false } : DS) = d2 := hd2.symm
  rw [hd2'] at HT2
  rw [HF.out.2]
  obtain ⟨n, hn⟩ : ∃ n, n = keep.length := ⟨_, rfl⟩
  have HN := Aside0.mk hn
  rw [← hn] at HKC hmax ⊢
  clear h hg ha hC hA hd2 hd2' hn t1
  have HNC := Aside0.mk (Names_calls g b d2 none 0 [] _ HT2.out.dk (by rw [HF.out.1]; exact HAS.out) (by rw [HF.out.1]; have := HG.out.count; omega) (Kd.C_nil _ _))
  rw [namesD_all] at HNC
  obtain ⟨m, hm⟩ : ∃ m, m = (namesF d2.files).length := ⟨_, rfl⟩
  have HM := Aside0.mk hm
  have hml : m = d2.files.length := by rw [hm]; exact List.length_map _
  have HML := Aside0.mk hml
  clear hm hml
  go_enter Tryz.func30, Tryz.ntmps30
  go_wp2_with fail
  refine HNC.out.mono ?_
  rintro e w3 ⟨v, rfl, hr3, hb3⟩
  obtain ⟨Av, cv, ev⟩ := Kd.R_slice hr3
  subst ev
  rw [← HM.out] at hr3 ⊢
  have HR3 := Aside0.mk hr3
  have HB3 := Aside0.mk hb3
  have HLT3 : Aside0 (∀ k, foot g b d2 k → k < _) := ⟨HT2.out.dk.lt⟩
  have HT3 := Aside0.mk (HT2.out.trans (Turn.below HT2.out.dk hb3))
  have HAV : Aside0 (∀ ad, Av = some ad → ¬ foot g b d2 ad.block) := ⟨fun ad e hk => by
    have h1 := Kd.R_base hr3 ad.block (by rw [e]; cases ad; simp [Value.ownBlock])
    have h2 := HT2.out.dk.lt _ hk
    omega⟩
  have HND : Aside0 ((d2.files.map (·.name)).Nodup) := ⟨by rw [HF.out.1]; exact HG.out.names⟩
  have HEA : Aside0 (∀ f ∈ d2.files, 0 < f.name.size ∧ f.name.size ≤ 20 ∧ f.data.size ≤ 1048576 ∧ 0 ≤ f.kept ∧ f.kept ≤ (f.data.size : Int)) := ⟨by rw [HF.out.1]; exact HG.out.each⟩
  have hm100 : m ≤ 100 := by rw [HML.out, HF.out.1]; exact HG.out.count
  have HD20 : Aside0 (d2 = { d2 with files := crashK d2.files keep 0 }) := ⟨by rw [crashK_zero]⟩
  clear hr3 hb3 HNC HB3 h0 h1 f0 f1
  go_wp2_with fail
  go_loopg [4, 5, 6, 7, 8, 22] (m + 1) (fun kq _ _ _ _ _ v22 w' => ∃ k : Nat, v22 = .int .i64 k ∧ Aside0 (m < k + kq) ∧ k ≤ m ∧ Aside0 (Turn w3 g b d2 { d2 with files := crashK d2.files keep k } w'))
  case atStart => exact ⟨0, rfl, ⟨by omega⟩, Nat.zero_le _, ⟨by rw [← HD20.out]; exact Turn.refl HT3.out.dk⟩⟩
  case round =>
    obtain ⟨k, rfl, HK, hk, HTK⟩ := hrel
    cases gk with
    | zero => exact absurd HK.out (by omega)
    | succ k1 =>
      by_cases hkm : k < m
      · have hkl : k < (namesF d2.files).length := by rw [← HM.out]; exact hkm
        have hkf : k < d2.files.length := by rw [← HML.out]; exact hkm
        have hCV : Kd.C Kd.string wr Av (namesF d2.files).length (namesF d2.files) := strC_kp (Kd.R_reads' (len_n HR3.out HM.out)).2.2 HTK.out.kp (fun ad e _ => HAV.out ad e)
        obtain ⟨ad, e0, hx⟩ := Kd.at_string hCV (k : Int) (by omega) (by omega)
        cases e0
        simp only [Int.toNat_natCast] at hx
        rw [rdS_at _ k hkl] at hx
        have hnk : (namesF d2.files)[k] = d2.files[k].name := List.getElem_map _
        rw [hnk] at hx
        have hea := HEA.out d2.files[k] (List.getElem_mem hkf)
        have hgk := getF_at (fs := crashK d2.files keep k) (by rw [crashK_names]; exact HND.out) k (by rw [crashK_len]; exact hkf)
        rw [crashK_name d2.files keep k k _ hkf, crashK_get d2.files keep k k _ hkf, if_neg (Nat.lt_irrefl _)] at hgk
        have HSTEP := Aside0.mk (crashK_step d2.files keep k HND.out hkf)
        obtain ⟨f, hf⟩ : ∃ f, f = d2.files[k] := ⟨_, rfl⟩
        rw [← hf] at hx hea hgk HSTEP
        have hl := HTK.out.dk.look_some (by omega) hgk
        have hfm := (getF_some hgk).1
        have h5 := HTK.out.dk.c5
        have hc0 := blk_cell (HTK.out.dk.file f hfm) 0
        have hc1 := blk_cell (HTK.out.dk.file f hfm) 1
        have hf0 := blk_frozen (HTK.out.dk.file f hfm) 0
        have hf1 := blk_frozen (HTK.out.dk.file f hfm) 1
        have hltf := blk_lt (HTK.out.dk.file f hfm)
        simp only [List.getElem?_toArray, List.getElem?_cons_succ, List.getElem?_cons_zero] at hc0 hc1
        have HNDK : Aside0 (((crashK d2.files keep k).map (·.name)).Nodup) := ⟨by rw [crashK_names]; exact HND.out⟩
        have HFM := Aside0.mk hfm
        clear hkl hkf hCV hnk hgk hf hfm
        obtain ⟨mo, hmo⟩ : ∃ mo, mo = moreK keep k := ⟨_, rfl⟩
        have hmo0 : 0 ≤ mo := by rw [hmo]; unfold moreK; split <;> omega
        obtain ⟨n0, hn0⟩ : ∃ n0 : Nat, (n0 : Int) = keepN f mo := ⟨(keepN f mo).toNat, by unfold keepN; omega⟩
        have hn1 : n0 ≤ f.data.size := by unfold keepN at hn0; omega
        have ew1 : IntKind.i64.wrap ((f.data.size : Int) - f.kept) = (f.data.size : Int) - f.kept := by rw [IntKind.wrap_i64]; omega
        have ew2 : IntKind.i64.wrap (f.kept + min mo ((f.data.size : Int) - f.kept)) = (n0 : Int) := by rw [IntKind.wrap_i64]; unfold keepN at hn0; omega
        have HN0 := Aside0.mk hn0
        rw [← hmo] at HSTEP
        have HTN := Aside0.mk (fun nq => HTK.out.trans ((Turn.below HTK.out.dk (pw_below_drewN (Below.refl _ _) nq)).trans (Turn.file2 (HTK.out.dk.below (pw_below_drewN (Below.refl _ _) nq)) HNDK.out HFM.out (f.data.extract 0 n0) (n0 : Int) (crashFl mo) (fun _ => rfl) (fun _ => rfl) (by unfold crashFl; rw [← hn0, Int.toNat_natCast]))))
        clear hn0
        by_cases hkn : k < n
        · obtain ⟨ad2, e2, hy⟩ := Kd.at_int (HKC.out wr (HT3.out.trans HTK.out).kp) (k : Int) (by omega) (by have := HN.out; omega)
          cases e2
          simp only [Int.toNat_natCast] at hy
          have hmx : max (rd keep (k : Int)) 0 = mo := by rw [hmo]; unfold moreK; rw [if_pos (by rw [← HN.out]; exact hkn)]
          clear hmo
          generalize rd keep (k : Int) = kv at hy hmx
          subst hmx
          go_wp2_with fail
          go_quiet (fail)
          go_wp2
          go_roundg k1
          case measure => have := HK.out; omega
          case rel => exact ⟨k + 1, by go_num, ⟨by have := HK.out; omega⟩, by omega, ⟨by rw [← HSTEP.out]; exact HTN.out _⟩⟩
        · have hmz : mo = 0 := by rw [hmo]; unfold moreK; rw [if_neg (by rw [← HN.out]; exact hkn)]
          clear hmo
          subst hmz
          go_wp2_with fail
          go_quiet (fail)
          go_wp2
          go_roundg k1
          case measure => have := HK.out; omega
          case rel => exact ⟨k + 1, by go_num, ⟨by have := HK.out; omega⟩, by omega, ⟨by rw [← HSTEP.out]; exact HTN.out _⟩⟩
      · have e : k = m := by omega
        subst e
        have HTF := HT3.out.trans HTK.out
        rw [HML.out] at HTF
        have HTF2 := Aside0.mk HTF
        clear HTF
        go_wp2
        go_end0
        exact ⟨rfl, HTF2.out⟩
end Go.Proofs.YtcbbdkennmopdaaGreatDoor.PK
/- disk: a disk within a run of a law: what stays so. -/
namespace Go.Proofs.YtcbbdkennmopdaaGreatDoor.PK
open Go.RowKit Go.Proofs.YtcbbdkennmopdaaGreatDoorW.PrintWords Go.Proofs.YtcbbdkennmopdaaGreatDoorW.PrintLast Go.Proofs.YtcbbdkennmopdaaGreatDoorW.PrintMore
open Go.Maps
structure Run (w0 w : World) (g b : Nat) (d : DS) : Prop where
  dk : Dk w g b d
  bel : Below w0.heap.size w0 w
  ge : ∀ k, foot g b d k → w0.heap.size ≤ k
  good : Good d
  asc : Asc d.files
theorem Run.turn {w0 w w1 : World} {g b : Nat} {d d1 : DS} (h : Run w0 w g b d) (t : Turn w g b d d1 w1) (hg : Good d1) (ha : Asc d1.files) : Run w0 w1 g b d1 := by
  have h1 := t.lower h.bel.size h.ge
  exact ⟨t.dk, h.bel.trans h1.1, h1.2, hg, ha⟩
theorem Run.below {w0 w w1 : World} {g b : Nat} {d : DS} (h : Run w0 w g b d) (hb : Below w.heap.size w w1) : Run w0 w1 g b d := h.turn (Turn.below h.dk hb) h.good h.asc
theorem Good.use {d : DS} (h : Good d) (hu : d.uses < 1000000) : Good (useD d).1 := by
  have hf := useD_files d
  have hr : (useD d).1.room = d.room := by
    unfold useD
    split
    · rfl
    · split
      · rfl
      · split <;> rfl
  have h1 := h.fair
  refine ⟨?_, by rw [hr]; exact h.room0, by rw [hr]; exact h.room1, by rw [hf]; exact h.count, by rw [hf]; exact h.each, by rw [hf]; exact h.names⟩
  unfold useD
  have a1 := h1.uses0
  have a2 := h1.left0
  have a3 := h1.left1
  split
  · exact h1
  · split
    · exact ⟨by show 0 ≤ d.uses + 1; omega, by show d.uses + 1 < _; omega, a2, a3⟩
    · rename_i h3
      split
      · rename_i h4
        have h5 : d.left ≠ 0 := fun e => h3 ⟨h4, e⟩
        exact ⟨by show 0 ≤ d.uses + 1; omega, by show d.uses + 1 < _; omega, by show 0 ≤ d.left - 1; omega, by show d.left - 1 ≤ _; omega⟩
      · exact ⟨by show 0 ≤ d.uses + 1; omega, by show d.uses + 1 < _; omega, a2, a3⟩
theorem useD_uses (d : DS) : (useD d).1.uses ≤ d.uses + 1 := by
  unfold useD
  split
  · show d.uses ≤ _; omega
  · split
    · exact Int.le_refl _
    · split <;> exact Int.le_refl _
theorem insF_len (x : Fl) (l : List Fl) : (insF x l).length = l.length + 1 := by
  have := (insF_perm x l).length_eq
  rw [this, List.length_cons]
theorem delF_none {l : List Fl} {s : ByteArray} (h : getF l s = none) : delF l s = l := by
  unfold delF
  exact List.filter_eq_self.2 fun f hf => by rw [sameN_ne.2 (getF_none h f hf)]; rfl
theorem delF_some : ∀ {l : List Fl} {s : ByteArray} {f : Fl}, getF l s = some f → (delF l s).length + 1 ≤ l.length
  | [], _, _, h => by unfold getF at h; cases h
  | y :: r, s, f, h => by
    unfold delF
    rw [List.filter_cons]
    by_cases hy : sameN y.name s = true
    · rw [hy, if_neg (by decide), List.length_cons]
      have := List.length_filter_le (fun p : Fl => !sameN p.name s) r
      omega
    · rw [Bool.not_eq_true] at hy
      rw [hy, Bool.not_false, if_pos rfl, List.length_cons, List.length_cons]
      have h2 : getF r s = some f := by
        unfold getF at h ⊢
        rw [List.find?_cons, hy] at h
        exact h
      have := delF_some h2
      unfold delF at this
      omega
theorem putF_len {l : List Fl} {x : Fl} (h : getF l x.name = none → l.length < 100) (hl : l.length ≤ 100) : (putF l x).length ≤ 100 := by
  unfold putF
  rw [insF_len]
  cases hg : getF l x.name with
  | none =>
    rw [delF_none hg]
    have := h hg
    omega
  | some f =>
    have := delF_some hg
    omega
theorem Good.put {d : DS} (h : Good d) (ha : Asc d.files) (x : Fl) (h1 : getF d.files x.name = none → d.files.length < 100) (hx : 0 < x.name.size ∧ x.name.size ≤ 20 ∧ x.data.size ≤ 1048576 ∧ 0 ≤ x.kept ∧ x.kept ≤ (x.data.size : Int)) : Good { d with files := putF d.files x } := by
  refine ⟨⟨h.fair.uses0, h.fair.uses1, h.fair.left0, h.fair.left1⟩, h.room0, h.room1, putF_len h1 h.count, fun f hf => ?_, (ha.put x).names⟩
  rcases mem_putF.1 hf with rfl | ⟨hf2, _⟩
  · exact hx
  · exact h.each f hf2
theorem fitsD_zero {d : DS} {name : ByteArray} {size has : Int} (h : fitsD d name size has = 0) : size ≤ 1048576 ∧ (getF d.files name = none → d.files.length < 100) ∧ size - has ≤ freeD d := by
  unfold fitsD at h
  split at h
  · omega
  · rename_i h1
    split at h
    · omega
    · refine ⟨?_, fun hn => ?_, by omega⟩
      · rcases Int.lt_or_le 1048576 size with h2 | h2
        · exact absurd (.inl h2) h1
        · exact h2
      · rcases Nat.lt_or_ge d.files.length 100 with h2 | h2
        · exact h2
        · exact absurd (.inr ⟨hn, h2⟩) h1
theorem oldF_fair {d : DS} (h : Good d) (name : ByteArray) : (oldF d.files name).1.size ≤ 1048576 ∧ 0 ≤ (oldF d.files name).2 ∧ (oldF d.files name).2 ≤ ((oldF d.files name).1.size : Int) := by
  unfold oldF
  cases hg : getF d.files name with
  | none => exact ⟨Nat.zero_le _, Int.le_refl _, Int.le_refl _⟩
  | some f =>
    have := h.each f (getF_some hg).1
    exact ⟨this.2.2.1, this.2.2.2.1, this.2.2.2.2⟩
theorem append_size (a b : ByteArray) : (a ++ b).size = a.size + b.size := ByteArray.size_append
def AppIs (d : DS) (name : ByteArray) (data : List ByteArray) (d' : DS) : Prop :=
  (appendC d name data ≠ 0 → d' = (beginD d [name]).1) ∧ (appendC d name data = 0 → ∃ blk, d' = { (beginD d [name]).1 with files := putF d.files ⟨name, blk, (oldF d.files name).1 ++ catS data, (oldF d.files name).2⟩ })
theorem appendC_zero {d : DS} {name : ByteArray} {data : List ByteArray} (h : appendC d name data = 0) : (beginD d [name]).2 = 0 ∧ fitsD (beginD d [name]).1 name ((oldF d.files name).1.size + sumS data : Nat) ((oldF d.files name).1.size : Nat) = 0 := by
  unfold appendC at h
  split at h
  · exact ⟨by assumption, h⟩
  · rename_i h1
    exact absurd h h1
theorem app_good {d d' : DS} {name : ByteArray} {data : List ByteArray} (h : Good d) (ha : Asc d.files) (hu : d.uses < 1000000) (hi : AppIs d name data d') : Good d' ∧ Asc d'.files := by
  by_cases h0 : appendC d name data = 0
  · obtain ⟨blk, rfl⟩ := hi.2 h0
    have h1 := appendC_zero h0
    have h2 := fitsD_zero h1.2
    have h3 := mayN_size (beginD_may h1.1 name List.mem_cons_self)
    have h4 := oldF_fair h name
    have hb : Good (beginD d [name]).1 := h.use hu
    have hf : (beginD d [name]).1.files = d.files := beginD_files d _
    have h5 := Good.put hb (by rw [hf]; exact ha) ⟨name, blk, (oldF d.files name).1 ++ catS data, (oldF d.files name).2⟩ h2.2.1 ⟨h3.1, h3.2, by
      show ((oldF d.files name).1 ++ catS data).size ≤ _
      rw [append_size, catS_size]
      have := h2.1
      omega, h4.2.1, by
      show (oldF d.files name).2 ≤ ((((oldF d.files name).1 ++ catS data).size : Nat) : Int)
      rw [append_size]
      omega⟩
    rw [hf] at h5
    exact ⟨h5, ha.put _⟩
  · rw [hi.1 h0]
    exact ⟨h.use hu, by rw [beginD_files]; exact ha⟩
theorem app_run {w0 w : World} {g b : Nat} {d : DS} (h : Run w0 w g b d) (hu : d.uses < 1000000) (name : ByteArray) (A : Option Addr) (c : Nat) (data : List ByteArray) (hC : Kd.C Kd.string w A data.length data) (hA : ∀ ad, A = some ad → 0 < data.length → ¬ foot g b d ad.block) (hcc : data.length ≤ c) (hln : data.length ≤ 1000000) (hsm : sumS data ≤ 1099511627776) :
    Calls Tryz.prog 59 #[.pointer (some ⟨g, 0, none⟩), .string name, .slice A data.length c] w fun e w' => ∃ d', e = .returned (.int .i64 (appendC d name data)) ∧ AppIs d name data d' ∧ Run w0 w' g b d' ∧ Turn w g b d d' w' := by
  refine (Append_calls g b d name A c data w h.dk h.good (h.good.use hu) hC hA hcc hln hsm).mono ?_
  rintro e w' ⟨d', rfl, ht, h1, h2⟩
  have hi : AppIs d name data d' := ⟨h1, fun h0 => by
    obtain ⟨blk, hb⟩ := h2 h0
    rw [beginD_files] at hb
    exact ⟨blk, hb⟩⟩
  have hgd := app_good h.good h.asc hu hi
  exact ⟨d', rfl, hi, h.turn ht hgd.1 hgd.2, ht⟩
end Go.Proofs.YtcbbdkennmopdaaGreatDoor.PK
/- disk: all other uses within a run of a law. -/
namespace Go.Proofs.YtcbbdkennmopdaaGreatDoor.PK
open Go.RowKit Go.Proofs.YtcbbdkennmopdaaGreatDoorW.PrintWords Go.Proofs.YtcbbdkennmopdaaGreatDoorW.PrintLast Go.Proofs.YtcbbdkennmopdaaGreatDoorW.PrintMore
open Go.Maps
def FlOk (x : Fl) : Prop := 0 < x.name.size ∧ x.name.size ≤ 20 ∧ x.data.size ≤ 1048576 ∧ 0 ≤ x.kept ∧ x.kept ≤ (x.data.size : Int)
theorem Asc.of_names {fs fs' : List Fl} (h : Asc fs) (hn : fs'.map (·.name) = fs.map (·.name)) : Asc fs' := by
  have key : ∀ l : List Fl, Asc l ↔ (l.map (·.name)).Pairwise (fun x y => lessN x y = true) := fun l => by unfold Asc; rw [List.pairwise_map]
  rw [key, hn, ← key]
  exact h
theorem Good.files {d : DS} (h : Good d) (fs : List Fl) (hn : fs.map (·.name) = d.files.map (·.name)) (he : ∀ f ∈ fs, FlOk f) : Good { d with files := fs } := by
  have hl : fs.length = d.files.length := by have := congrArg List.length hn; simpa using this
  exact ⟨⟨h.fair.uses0, h.fair.uses1, h.fair.left0, h.fair.left1⟩, h.room0, h.room1, by show fs.length ≤ 100; rw [hl]; exact h.count, he, by show (fs.map (·.name)).Nodup; rw [hn]; exact h.names⟩
theorem updF_ok {fs : List Fl} (h : ∀ f ∈ fs, FlOk f) (s : ByteArray) (k : Fl → Fl) (hk : ∀ f, FlOk f → FlOk (k f)) : ∀ f ∈ updF fs s k, FlOk f := by
  intro f hf
  obtain ⟨x, hx, rfl⟩ := List.mem_map.1 hf
  show FlOk (if sameN x.name s = true then k x else x)
  split
  · exact hk x (h x hx)
  · exact h x hx
theorem keepAll_ok (f : Fl) (h : FlOk f) : FlOk (keepAll f) := ⟨h.1, h.2.1, h.2.2.1, by show (0 : Int) ≤ (f.data.size : Int); omega, Int.le_refl _⟩
theorem syncF_ok : ∀ (l : List ByteArray) {fs : List Fl}, (∀ f ∈ fs, FlOk f) → ∀ f ∈ syncF fs l, FlOk f
  | [], _, h => h
  | s :: r, _, h => syncF_ok r (updF_ok h s keepAll keepAll_ok)
theorem extract_size (s : ByteArray) (n : Nat) (h : n ≤ s.size) : (s.extract 0 n).size = n := by rw [ByteArray.size_extract]; omega
theorem crashFl_ok (more : Int) (hm : 0 ≤ more) (f : Fl) (h : FlOk f) : FlOk (crashFl more f) := by
  obtain ⟨h1, h2, h3, h4, h5⟩ := h
  have e1 : 0 ≤ keepN f more := by unfold keepN; omega
  have e2 : keepN f more ≤ (f.data.size : Int) := by unfold keepN; omega
  have e3 : ((f.data.extract 0 (keepN f more).toNat).size : Int) = keepN f more := by rw [extract_size _ _ (by omega)]; omega
  refine ⟨h1, h2, ?_, e1, ?_⟩
  · show (f.data.extract 0 (keepN f more).toNat).size ≤ _
    omega
  · show keepN f more ≤ ((f.data.extract 0 (keepN f more).toNat).size : Int)
    omega
theorem moreK_pos (keep : List Int) (i : Nat) : 0 ≤ moreK keep i := by unfold moreK; split <;> omega
theorem crashK_ok {fs : List Fl} (h : ∀ f ∈ fs, FlOk f) (keep : List Int) (k : Nat) : ∀ f ∈ crashK fs keep k, FlOk f := by
  intro f hf
  obtain ⟨i, hi, rfl⟩ := List.getElem_of_mem hf
  have h2 : i < fs.length := by rw [crashK_len] at hi; exact hi
  rw [crashK_get fs keep k i hi h2]
  split
  · exact crashFl_ok _ (moreK_pos keep i) _ (h _ (List.getElem_mem h2))
  · exact h _ (List.getElem_mem h2)
theorem sync_run {w0 w : World} {g b : Nat} {d : DS} (h : Run w0 w g b d) (hu : d.uses < 1000000) (A : Option Addr) (c : Nat) (names : List ByteArray) (hC : Kd.C Kd.string w A names.length names) (hA : ∀ ad, A = some ad → 0 < names.length → ¬ foot g b d ad.block) :
    Calls Tryz.prog 20 #[.pointer (some ⟨g, 0, none⟩), .slice A names.length c] w fun e w' => e = .returned (.int .i64 (syncD d names).2) ∧ Run w0 w' g b (syncD d names).1 ∧ Turn w g b d (syncD d names).1 w' := by
  refine (Sync_calls g b d A c names w h.dk h.good.fair h.good.names hC hA).mono ?_
  rintro e w' ⟨rfl, ht⟩
  have hb := h.good.use hu
  have hf : (useD d).1.files = d.files := useD_files d
  have key : Good (syncD d names).1 ∧ Asc (syncD d names).1.files := by
    unfold syncD
    split
    · show Good { (useD d).1 with files := syncF (useD d).1.files names } ∧ Asc (syncF (useD d).1.files names)
      exact ⟨hb.files _ (syncF_names _ _) (syncF_ok names hb.each), Asc.of_names (by rw [hf]; exact h.asc) (syncF_names _ _)⟩
    · exact ⟨hb, by show Asc (useD d).1.files; rw [hf]; exact h.asc⟩
  exact ⟨rfl, h.turn ht key.1 key.2, ht⟩
theorem crash_run {w0 w : World} {g b : Nat} {d : DS} (h : Run w0 w g b d) (A : Option Addr) (c : Nat) (keep : List Int) (hC : Kd.C (Kd.int .i64) w A keep.length keep) (hA : ∀ ad, A = some ad → 0 < keep.length → ¬ foot g b d ad.block) :
    Calls Tryz.prog 30 #[.pointer (some ⟨g, 0, none⟩), .slice A keep.length c] w fun e w' => e = .returned (.tuple #[]) ∧ Run w0 w' g b (crashD d keep) ∧ Turn w g b d (crashD d keep) w' := by
  refine (Crash_calls g b d A c keep w h.dk h.good h.asc hC hA).mono ?_
  rintro e w' ⟨rfl, ht⟩
  refine ⟨rfl, h.turn ht ?_ (Asc.of_names h.asc (crashK_names _ _ _)), ht⟩
  have hg := h.good.files (crashK d.files keep d.files.length) (crashK_names _ _ _) (crashK_ok h.good.each _ _)
  exact ⟨⟨hg.fair.uses0, hg.fair.uses1, hg.fair.left0, hg.fair.left1⟩, hg.room0, hg.room1, hg.count, hg.each, hg.names⟩
theorem delete_run {w0 w : World} {g b : Nat} {d : DS} (h : Run w0 w g b d) (hu : d.uses < 1000000) (name : ByteArray) :
    Calls Tryz.prog 79 #[.pointer (some ⟨g, 0, none⟩), .string name] w fun e w' => e = .returned (.int .i64 (deleteD d name).2) ∧ Run w0 w' g b (deleteD d name).1 ∧ Turn w g b d (deleteD d name).1 w' := by
  refine (Delete_calls g b d name w h.dk h.good.fair).mono ?_
  rintro e w' ⟨rfl, ht⟩
  have hb := h.good.use hu
  have hf : (useD d).1.files = d.files := useD_files d
  have key : Good (deleteD d name).1 ∧ Asc (deleteD d name).1.files := by
    unfold deleteD
    split
    · show Good { (useD d).1 with files := delF (useD d).1.files name } ∧ Asc (delF (useD d).1.files name)
      have hs := delF_sub (useD d).1.files name
      exact ⟨⟨⟨hb.fair.uses0, hb.fair.uses1, hb.fair.left0, hb.fair.left1⟩, hb.room0, hb.room1, Nat.le_trans hs.length_le hb.count, fun f hf2 => hb.each f (hs.subset hf2), hb.names.sublist (hs.map _)⟩, by rw [hf]; exact h.asc.del name⟩
    · exact ⟨hb, by show Asc (useD d).1.files; rw [hf]; exact h.asc⟩
  exact ⟨rfl, h.turn ht key.1 key.2, ht⟩
theorem rename_run {w0 w : World} {g b : Nat} {d : DS} (h : Run w0 w g b d) (hu : d.uses < 1000000) (a c : ByteArray) :
    Calls Tryz.prog 67 #[.pointer (some ⟨g, 0, none⟩), .string a, .string c] w fun e w' => e = .returned (.int .i64 (renameD d a c).2) ∧ Run w0 w' g b (renameD d a c).1 ∧ Turn w g b d (renameD d a c).1 w' := by
  refine (Rename_calls g b d a c w h.dk h.good.fair (by have := h.good.count; omega)).mono ?_
  rintro e w' ⟨rfl, ht⟩
  have hb := h.good.use hu
  have hf : (useD d).1.files = d.files := useD_files d
  have key : Good (renameD d a c).1 ∧ Asc (renameD d a c).1.files := by
    unfold renameD
    split
    · rename_i h0
      have hm := mayN_size (beginD_may h0 c (List.mem_cons_of_mem _ List.mem_cons_self))
      show Good (match getF (useD d).1.files a with | none => ((useD d).1, (8 : Int)) | some f => ({ (useD d).1 with files := renF (useD d).1.files a c f }, 0)).1 ∧ Asc (match getF (useD d).1.files a with | none => ((useD d).1, (8 : Int)) | some f => ({ (useD d).1 with files := renF (useD d).1.files a c f }, 0)).1.files
      cases hg : getF (useD d).1.files a with
      | none => exact ⟨hb, by show Asc (useD d).1.files; rw [hf]; exact h.asc⟩
      | some f =>
        have hs := delF_sub (useD d).1.files a
        have hl := delF_some hg
        have hgd : Good { (useD d).1 with files := delF (useD d).1.files a } := ⟨⟨hb.fair.uses0, hb.fair.uses1, hb.fair.left0, hb.fair.left1⟩, hb.room0, hb.room1, Nat.le_trans hs.length_le hb.count, fun f hf2 => hb.each f (hs.subset hf2), hb.names.sublist (hs.map _)⟩
        have had : Asc (delF (useD d).1.files a) := by rw [hf]; exact h.asc.del a
        have he := hb.each f (getF_some hg).1
        have h5 := Good.put hgd had { f with name := c } (fun _ => by have := hb.count; show (delF (useD d).1.files a).length < 100; omega) ⟨hm.1, hm.2, he.2.2.1, he.2.2.2.1, he.2.2.2.2⟩
        exact ⟨h5, had.put _⟩
    · exact ⟨hb, by show Asc (useD d).1.files; rw [hf]; exact h.asc⟩
  exact ⟨rfl, h.turn ht key.1 key.2, ht⟩
theorem arm_run {w0 w : World} {g b : Nat} {d : DS} (h : Run w0 w g b d) (n : Int) (hn : n ≤ 9223372036854775807) :
    Calls Tryz.prog 19 #[.pointer (some ⟨g, 0, none⟩), .int .i64 n] w fun e w' => e = .returned (.tuple #[]) ∧ Run w0 w' g b (armD d n) ∧ Turn w g b d (armD d n) w' := by
  refine (Arm_calls g b d n w h.dk).mono ?_
  rintro e w' ⟨rfl, ht⟩
  exact ⟨rfl, h.turn ht ⟨⟨h.good.fair.uses0, h.good.fair.uses1, by show 0 ≤ max n 0; omega, by show max n 0 ≤ _; omega⟩, h.good.room0, h.good.room1, h.good.count, h.good.each, h.good.names⟩ h.asc, ht⟩
theorem new_run (w0 w : World) (room : Int) (h0 : 0 ≤ room) (h1 : room ≤ 16777216) (hb : Below w0.heap.size w0 w) : Calls Tryz.prog 13 #[.int .i64 room] w fun e w' => e = .returned (.pointer (some ⟨w.heap.size + 1, 0, none⟩)) ∧ Run w0 w' (w.heap.size + 1) w.heap.size (newD room) ∧ Below w.heap.size w w' := by
  refine (New_calls room w h0 h1).mono ?_
  rintro e w' ⟨rfl, hd, hbw⟩
  have hs := hb.size
  refine ⟨rfl, ⟨hd, below_step hb hbw, ?_, ⟨⟨Int.le_refl _, by show (0 : Int) < _; omega, Int.le_refl _, by show (0 : Int) ≤ _; omega⟩, h0, h1, Nat.zero_le _, fun f hf => by simp [newD] at hf, List.nodup_nil⟩, List.Pairwise.nil⟩, hbw⟩
  rintro k (rfl | rfl | ⟨f, hf, _⟩)
  · omega
  · omega
  · simp [newD] at hf
end Go.Proofs.YtcbbdkennmopdaaGreatDoor.PK
/- disk: states without the files' block numbers; each use within a run as a law of such states. -/
namespace Go.Proofs.YtcbbdkennmopdaaGreatDoor.PK
open Go.RowKit Go.Proofs.YtcbbdkennmopdaaGreatDoorW.PrintWords Go.Proofs.YtcbbdkennmopdaaGreatDoorW.PrintLast Go.Proofs.YtcbbdkennmopdaaGreatDoorW.PrintMore
open Go.Maps
def st0 (f : Fl) : Fl := { f with blk := 0 }
def strip (d : DS) : DS := { d with files := d.files.map st0 }
theorem getF_st0 (fs : List Fl) (s : ByteArray) : getF (fs.map st0) s = (getF fs s).map st0 := by
  unfold getF
  rw [List.find?_map]
  rfl
theorem delF_st0 (fs : List Fl) (s : ByteArray) : delF (fs.map st0) s = (delF fs s).map st0 := by
  unfold delF
  rw [List.filter_map]
  rfl
theorem insF_st0 (x : Fl) : ∀ l : List Fl, insF (st0 x) (l.map st0) = (insF x l).map st0
  | [] => rfl
  | y :: r => by
    have ih := insF_st0 x r
    rw [List.map_cons]
    unfold insF
    have e : lessN (st0 x).name (st0 y).name = lessN x.name y.name := rfl
    rw [e]
    split
    · rfl
    · rw [ih]; rfl
theorem putF_st0 (x : Fl) (l : List Fl) : putF (l.map st0) (st0 x) = (putF l x).map st0 := by
  unfold putF
  have e : (st0 x).name = x.name := rfl
  rw [e, delF_st0, insF_st0]
theorem updF_st0 (fs : List Fl) (s : ByteArray) (h : Fl → Fl) (hh : ∀ x, st0 (h x) = h (st0 x)) : updF (fs.map st0) s h = (updF fs s h).map st0 := by
  unfold updF
  rw [List.map_map, List.map_map]
  refine List.map_congr_left fun x _ => ?_
  show (if sameN (st0 x).name s = true then h (st0 x) else st0 x) = st0 (if sameN x.name s = true then h x else x)
  have e : (st0 x).name = x.name := rfl
  rw [e]
  split
  · exact (hh x).symm
  · rfl
theorem usedF_st0 (fs : List Fl) : usedF (fs.map st0) = usedF fs := by
  unfold usedF
  rw [List.map_map]
  rfl
theorem strip_use (d : DS) : useD (strip d) = (strip (useD d).1, (useD d).2) := by
  unfold useD strip
  dsimp only
  split
  · rfl
  · split
    · rfl
    · split <;> rfl
theorem strip_begin (d : DS) (names : List ByteArray) : beginD (strip d) names = (strip (beginD d names).1, (beginD d names).2) := by
  unfold beginD
  rw [strip_use]
theorem strip_free (d : DS) : freeD (strip d) = freeD d := by
  unfold freeD strip
  dsimp only
  rw [usedF_st0]
theorem strip_fits (d : DS) (name : ByteArray) (a c : Int) : fitsD (strip d) name a c = fitsD d name a c := by
  unfold fitsD
  rw [strip_free]
  unfold strip
  dsimp only
  rw [getF_st0, List.length_map]
  cases getF d.files name <;> simp
theorem strip_old (fs : List Fl) (name : ByteArray) : oldF (fs.map st0) name = oldF fs name := by
  unfold oldF
  rw [getF_st0]
  cases getF fs name <;> rfl
theorem strip_appC (d : DS) (name : ByteArray) (data : List ByteArray) : appendC (strip d) name data = appendC d name data := by
  unfold appendC
  rw [strip_begin]
  dsimp only
  rw [strip_fits]
  have e : (strip d).files = d.files.map st0 := rfl
  rw [e, strip_old]
theorem strip_read (d : DS) (name : ByteArray) : readD (strip d) name = readD d name := by
  unfold readD
  have e : (strip d).files = d.files.map st0 := rfl
  have e2 : (strip d).off = d.off := rfl
  rw [e, e2, getF_st0]
  cases getF d.files name <;> rfl
theorem strip_names (d : DS) (fronts : List ByteArray) : namesD (strip d) fronts = namesD d fronts := by
  unfold namesD namesF
  have e : (strip d).files = d.files.map st0 := rfl
  rw [e, List.map_map]
  rfl
theorem strip_isThere (fs : List Fl) (l : List ByteArray) : l.all (isThere (fs.map st0)) = l.all (isThere fs) := by
  congr 1
  funext s
  unfold isThere
  rw [getF_st0]
  cases getF fs s <;> rfl
theorem strip_there (d : DS) (names : List ByteArray) : thereD (strip d) names = (strip (thereD d names).1, (thereD d names).2) := by
  unfold thereD
  rw [strip_begin]
  have e : (strip d).files = d.files.map st0 := rfl
  rw [e, strip_isThere]
theorem strip_delete (d : DS) (name : ByteArray) : deleteD (strip d) name = (strip (deleteD d name).1, (deleteD d name).2) := by
  unfold deleteD
  rw [strip_there]
  split
  · show ({ strip (thereD d [name]).1 with files := delF ((thereD d [name]).1.files.map st0) name }, (0 : Int)) = _
    rw [delF_st0]
    rfl
  · rfl
theorem strip_syncF : ∀ (l : List ByteArray) (fs : List Fl), syncF (fs.map st0) l = (syncF fs l).map st0
  | [], _ => rfl
  | s :: r, fs => by
    unfold syncF
    rw [updF_st0 fs s keepAll (fun _ => rfl), strip_syncF r]
theorem strip_sync (d : DS) (names : List ByteArray) : syncD (strip d) names = (strip (syncD d names).1, (syncD d names).2) := by
  unfold syncD
  rw [strip_there]
  split
  · show ({ strip (thereD d names).1 with files := syncF ((thereD d names).1.files.map st0) names }, (0 : Int)) = _
    rw [strip_syncF]
    rfl
  · rfl
theorem strip_rename (d : DS) (a c : ByteArray) : renameD (strip d) a c = (strip (renameD d a c).1, (renameD d a c).2) := by
  unfold renameD
  rw [strip_begin]
  split
  · have e : (strip (beginD d [a, c]).1).files = (beginD d [a, c]).1.files.map st0 := rfl
    rw [e, getF_st0]
    cases getF (beginD d [a, c]).1.files a with
    | none => rfl
    | some f =>
      show ({ strip (beginD d [a, c]).1 with files := renF ((beginD d [a, c]).1.files.map st0) a c (st0 f) }, (0 : Int)) = _
      unfold renF
      rw [delF_st0]
      have := putF_st0 { f with name := c } (delF (beginD d [a, c]).1.files a)
      show ({ strip (beginD d [a, c]).1 with files := putF ((delF (beginD d [a, c]).1.files a).map st0) (st0 { f with name := c }) }, (0 : Int)) = _
      rw [this]
      rfl
  · rfl
theorem strip_crashK (fs : List Fl) (keep : List Int) (k : Nat) : crashK (fs.map st0) keep k = (crashK fs keep k).map st0 := by
  unfold crashK
  apply List.ext_getElem
  · simp
  · intro i h1 h2
    simp only [List.getElem_mapIdx, List.getElem_map]
    split
    · rfl
    · rfl
theorem strip_crash (d : DS) (keep : List Int) : crashD (strip d) keep = strip (crashD d keep) := by
  unfold crashD strip
  dsimp only
  rw [List.length_map, strip_crashK]
theorem catS_one (x : ByteArray) : catS [x] = x := by
  apply ByteArray.ext
  unfold catS
  simp
/-- Append of one text, and Put, as laws of such states. -/
def appS (s : DS) (name x : ByteArray) : DS × Int :=
  (if appendC s name [x] = 0 then { (useD s).1 with files := putF s.files ⟨name, 0, (oldF s.files name).1 ++ x, (oldF s.files name).2⟩ } else (useD s).1, appendC s name [x])
def putS (s : DS) (name x : ByteArray) : DS × Int := (if putC s name x = 0 then { s with files := putF s.files ⟨name, 0, x, (x.size : Int)⟩ } else s, putC s name x)
/-- A run of a law, at a state without block numbers; the blocks K are none of the disk's. -/
def RunK (w0 w : World) (g b : Nat) (s : DS) (K : Nat → Prop) : Prop := ∃ d, strip d = s ∧ Run w0 w g b d ∧ (∀ k, foot g b d k → ¬ K k) ∧ ∀ k, K k → k < w.heap.size
def Held (K : Nat → Prop) (w w' : World) : Prop := ∀ k, K k → w'.heap[k]? = w.heap[k]?
theorem Held.refl (K : Nat → Prop) (w : World) : Held K w w := fun _ _ => rfl
theorem Held.trans {K : Nat → Prop} {w w1 w2 : World} (h : Held K w w1) (k : Held K w1 w2) : Held K w w2 := fun i hi => (k i hi).trans (h i hi)
theorem Held.below {K : Nat → Prop} {w w' : World} (h : Below w.heap.size w w') (hK : ∀ k, K k → k < w.heap.size) : Held K w w' := fun k hk => h.block k (hK k hk)
theorem Held.mono {K K' : Nat → Prop} {w w' : World} (h : Held K w w') (hk : ∀ k, K' k → K k) : Held K' w w' := fun k h1 => h k (hk k h1)
theorem RunK.bel {w0 w : World} {g b : Nat} {s : DS} {K : Nat → Prop} (h : RunK w0 w g b s K) : Below w0.heap.size w0 w := by obtain ⟨_, _, hr, _⟩ := h; exact hr.bel
theorem RunK.lt {w0 w : World} {g b : Nat} {s : DS} {K : Nat → Prop} (h : RunK w0 w g b s K) : ∀ k, K k → k < w.heap.size := by obtain ⟨_, _, _, _, hl⟩ := h; exact hl
theorem RunK.mono {w0 w : World} {g b : Nat} {s : DS} {K K' : Nat → Prop} (h : RunK w0 w g b s K) (hk : ∀ k, K' k → K k) : RunK w0 w g b s K' := by
  obtain ⟨d, e, hr, hf, hl⟩ := h
  exact ⟨d, e, hr, fun k h1 h2 => hf k h1 (hk k h2), fun k h1 => hl k (hk k h1)⟩
theorem RunK.below {w0 w w1 : World} {g b : Nat} {s : DS} {K : Nat → Prop} (h : RunK w0 w g b s K) (hb : Below w.heap.size w w1) : RunK w0 w1 g b s K := by
  obtain ⟨d, e, hr, hf, hl⟩ := h
  exact ⟨d, e, hr.below hb, hf, fun k hk => Nat.lt_of_lt_of_le (hl k hk) hb.size⟩
/-- Blocks that came since are none of the disk's. -/
theorem RunK.more {w0 w w1 : World} {g b : Nat} {s : DS} {K : Nat → Prop} (h : RunK w0 w g b s K) (hb : Below w.heap.size w w1) : RunK w0 w1 g b s (fun k => K k ∨ (w.heap.size ≤ k ∧ k < w1.heap.size)) := by
  obtain ⟨d, e, hr, hf, hl⟩ := h
  refine ⟨d, e, hr.below hb, fun k hk hK => ?_, fun k hk => ?_⟩
  · rcases hK with h1 | h1
    · exact hf k hk h1
    · have := hr.dk.lt k hk
      omega
  · rcases hk with h1 | h1
    · exact Nat.lt_of_lt_of_le (hl k h1) hb.size
    · exact h1.2
theorem RunK.good {w0 w : World} {g b : Nat} {s : DS} {K : Nat → Prop} (h : RunK w0 w g b s K) : Good s ∧ Asc s.files := by
  obtain ⟨d, rfl, hr, _⟩ := h
  have hg := hr.good
  have hn : (d.files.map st0).map (·.name) = d.files.map (·.name) := by rw [List.map_map]; rfl
  refine ⟨⟨⟨hg.fair.uses0, hg.fair.uses1, hg.fair.left0, hg.fair.left1⟩, hg.room0, hg.room1, by show (d.files.map st0).length ≤ 100; rw [List.length_map]; exact hg.count, fun f hf => ?_, by show ((d.files.map st0).map (·.name)).Nodup; rw [hn]; exact hg.names⟩, Asc.of_names hr.asc hn⟩
  obtain ⟨x, hx, rfl⟩ := List.mem_map.1 hf
  exact hg.each x hx
theorem RunK.of_turn {w0 w w1 : World} {g b : Nat} {d d1 : DS} {K : Nat → Prop} (h : Run w0 w g b d) (hf : ∀ k, foot g b d k → ¬ K k) (hl : ∀ k, K k → k < w.heap.size) (h1 : Run w0 w1 g b d1) (ht : Turn w g b d d1 w1) : RunK w0 w1 g b (strip d1) K ∧ Held K w w1 := by
  refine ⟨⟨d1, rfl, h1, fun k hk hK => ?_, fun k hk => Nat.lt_of_lt_of_le (hl k hk) ht.kp.size⟩, fun k hk => ht.kp.block k (hl k hk) (fun h2 => hf k h2 hk)⟩
  rcases ht.new k hk with h2 | h2
  · exact hf k h2 hK
  · have := hl k hK
    omega
theorem RunK.fresh {w0 w : World} {g b : Nat} {d : DS} (h : Run w0 w g b d) {n : Nat} : ∀ ad : Addr, (some ⟨w.heap.size, 0, none⟩ : Option Addr) = some ad → 0 < n → ¬ foot g b d ad.block := fun ad e _ hk => by
  injection e with e
  subst e
  exact absurd (h.dk.lt _ hk) (Nat.lt_irrefl _)
theorem app_S {w0 w : World} {g b : Nat} {s : DS} {K : Nat → Prop} (h : RunK w0 w g b s K) (hu : s.uses < 1000000) (name x : ByteArray) (hx : x.size ≤ 1099511627776) :
    Calls Tryz.prog 59 #[.pointer (some ⟨g, 0, none⟩), .string name, .slice (some ⟨w.heap.size, 0, none⟩) 1 1] (w.alloc (.cells #[.string x] 9)) fun e w' => e = .returned (.int .i64 (appS s name x).2) ∧ RunK w0 w' g b (appS s name x).1 K ∧ Held K w w' := by
  obtain ⟨d, rfl, hr, hf, hl⟩ := h
  have hb := below_alloc (Below.refl w.heap.size w) (.cells #[.string x] 9)
  refine (app_run (hr.below hb) hu name (some ⟨w.heap.size, 0, none⟩) 1 [x] (strC_blk (blk_new w _) (by simp)) (RunK.fresh hr) (by simp) (by simp) (by show ([x].map (·.size)).sum ≤ _; simpa using hx)).mono ?_
  rintro e w' ⟨d', rfl, hi, h1, ht⟩
  have hk := RunK.of_turn (hr.below hb) hf (fun k hk => Nat.lt_of_lt_of_le (hl k hk) hb.size) h1 ht
  have e2 : (appS (strip d) name x).2 = appendC d name [x] := by unfold appS; dsimp only; rw [strip_appC]
  have e1 : strip d' = (appS (strip d) name x).1 := by
    unfold appS
    dsimp only
    rw [strip_appC, strip_use]
    by_cases h0 : appendC d name [x] = 0
    · obtain ⟨blk, rfl⟩ := hi.2 h0
      rw [if_pos h0]
      have hbf : (beginD d [name]).1.files = d.files := beginD_files d _
      have e0 : (strip d).files = d.files.map st0 := rfl
      rw [e0, strip_old, catS_one]
      have := putF_st0 ⟨name, blk, (oldF d.files name).1 ++ x, (oldF d.files name).2⟩ d.files
      show strip { (beginD d [name]).1 with files := putF d.files ⟨name, blk, (oldF d.files name).1 ++ x, (oldF d.files name).2⟩ } = { strip (useD d).1 with files := putF (d.files.map st0) ⟨name, 0, (oldF d.files name).1 ++ x, (oldF d.files name).2⟩ }
      unfold strip
      dsimp only
      rw [← this]
      rfl
    · rw [hi.1 h0, if_neg h0]
      rfl
  rw [e2, ← e1]
  exact ⟨rfl, hk.1, (Held.below hb hl).trans hk.2⟩
theorem sync_S {w0 w : World} {g b : Nat} {s : DS} {K : Nat → Prop} (h : RunK w0 w g b s K) (hu : s.uses < 1000000) (name : ByteArray) :
    Calls Tryz.prog 20 #[.pointer (some ⟨g, 0, none⟩), .slice (some ⟨w.heap.size, 0, none⟩) 1 1] (w.alloc (.cells #[.string name] 9)) fun e w' => e = .returned (.int .i64 (syncD s [name]).2) ∧ RunK w0 w' g b (syncD s [name]).1 K ∧ Held K w w' := by
  obtain ⟨d, rfl, hr, hf, hl⟩ := h
  have hb := below_alloc (Below.refl w.heap.size w) (.cells #[.string name] 9)
  refine (sync_run (hr.below hb) hu (some ⟨w.heap.size, 0, none⟩) 1 [name] (strC_blk (blk_new w _) (by simp)) (RunK.fresh hr)).mono ?_
  rintro e w' ⟨rfl, h1, ht⟩
  have hk := RunK.of_turn (hr.below hb) hf (fun k hk => Nat.lt_of_lt_of_le (hl k hk) hb.size) h1 ht
  rw [strip_sync]
  exact ⟨rfl, hk.1, (Held.below hb hl).trans hk.2⟩
theorem delete_S {w0 w : World} {g b : Nat} {s : DS} {K : Nat → Prop} (h : RunK w0 w g b s K) (hu : s.uses < 1000000) (name : ByteArray) :
    Calls Tryz.prog 79 #[.pointer (some ⟨g, 0, none⟩), .string name] w fun e w' => e = .returned (.int .i64 (deleteD s name).2) ∧ RunK w0 w' g b (deleteD s name).1 K ∧ Held K w w' := by
  obtain ⟨d, rfl, hr, hf, hl⟩ := h
  refine (delete_run hr hu name).mono ?_
  rintro e w' ⟨rfl, h1, ht⟩
  have hk := RunK.of_turn hr hf hl h1 ht
  rw [strip_delete]
  exact ⟨rfl, hk.1, hk.2⟩
theorem rename_S {w0 w : World} {g b : Nat} {s : DS} {K : Nat → Prop} (h : RunK w0 w g b s K) (hu : s.uses < 1000000) (a c : ByteArray) :
    Calls Tryz.prog 67 #[.pointer (some ⟨g, 0, none⟩), .string a, .string c] w fun e w' => e = .returned (.int .i64 (renameD s a c).2) ∧ RunK w0 w' g b (renameD s a c).1 K ∧ Held K w w' := by
  obtain ⟨d, rfl, hr, hf, hl⟩ := h
  refine (rename_run hr hu a c).mono ?_
  rintro e w' ⟨rfl, h1, ht⟩
  have hk := RunK.of_turn hr hf hl h1 ht
  rw [strip_rename]
  exact ⟨rfl, hk.1, hk.2⟩
theorem crash_S {w0 w : World} {g b : Nat} {s : DS} {K : Nat → Prop} (h : RunK w0 w g b s K) (A : Option Addr) (c : Nat) (keep : List Int) (hC : Kd.C (Kd.int .i64) w A keep.length keep) (hA : ∀ ad, A = some ad → 0 < keep.length → K ad.block) :
    Calls Tryz.prog 30 #[.pointer (some ⟨g, 0, none⟩), .slice A keep.length c] w fun e w' => e = .returned (.tuple #[]) ∧ RunK w0 w' g b (crashD s keep) K ∧ Held K w w' := by
  obtain ⟨d, rfl, hr, hf, hl⟩ := h
  refine (crash_run hr A c keep hC (fun ad e hn hk => hf _ hk (hA ad e hn))).mono ?_
  rintro e w' ⟨rfl, h1, ht⟩
  have hk := RunK.of_turn hr hf hl h1 ht
  rw [strip_crash]
  exact ⟨rfl, hk.1, hk.2⟩
theorem arm_S {w0 w : World} {g b : Nat} {s : DS} {K : Nat → Prop} (h : RunK w0 w g b s K) (n : Int) (hn : n ≤ 9223372036854775807) :
    Calls Tryz.prog 19 #[.pointer (some ⟨g, 0, none⟩), .int .i64 n] w fun e w' => e = .returned (.tuple #[]) ∧ RunK w0 w' g b (armD s n) K ∧ Held K w w' := by
  obtain ⟨d, rfl, hr, hf, hl⟩ := h
  refine (arm_run hr n hn).mono ?_
  rintro e w' ⟨rfl, h1, ht⟩
  have hk := RunK.of_turn hr hf hl h1 ht
  exact ⟨rfl, hk.1, hk.2⟩
theorem read_S {w0 w : World} {g b : Nat} {s : DS} {K : Nat → Prop} (h : RunK w0 w g b s K) (name : ByteArray) (hs : name.size ≤ 9223372036854775807) :
    Calls Tryz.prog 26 #[.pointer (some ⟨g, 0, none⟩), .string name] w fun e w' => e = .returned (.tuple #[.string (readD s name).1, .int .i64 (readD s name).2]) ∧ w = w' := by
  obtain ⟨d, rfl, hr, hf, hl⟩ := h
  rw [strip_read]
  exact Read_calls g b d name w hr.dk hs
theorem on_S {w0 w : World} {g b : Nat} {s : DS} {K : Nat → Prop} (h : RunK w0 w g b s K) :
    Calls Tryz.prog 51 #[.pointer (some ⟨g, 0, none⟩)] w fun e w' => e = .returned (.bool (!s.off)) ∧ w = w' := by
  obtain ⟨d, rfl, hr, hf, hl⟩ := h
  exact On_calls g b d w hr.dk
theorem free_S {w0 w : World} {g b : Nat} {s : DS} {K : Nat → Prop} (h : RunK w0 w g b s K) :
    Calls Tryz.prog 34 #[.pointer (some ⟨g, 0, none⟩)] w fun e w' => e = .returned (.int .i64 (freeD s)) ∧ Below w.heap.size w w' := by
  obtain ⟨d, rfl, hr, hf, hl⟩ := h
  rw [strip_free]
  exact Free_calls g b d w hr.dk hr.good
theorem names_S {w0 w : World} {g b : Nat} {s : DS} {K : Nat → Prop} (h : RunK w0 w g b s K) (A : Option Addr) (c : Nat) (fronts : List ByteArray) (hC : Kd.C Kd.string w A fronts.length fronts) :
    Calls Tryz.prog 15 #[.pointer (some ⟨g, 0, none⟩), .slice A fronts.length c] w fun e w' => ∃ v, e = .returned v ∧ Kd.R Kd.string 9 w' w.heap.size (fun _ => True) v (namesD s fronts) ∧ Below w.heap.size w w' := by
  obtain ⟨d, rfl, hr, hf, hl⟩ := h
  rw [strip_names]
  exact Names_calls g b d A c fronts w hr.dk hr.asc (by have := hr.good.count; omega) hC
theorem new_S (w0 w : World) (room : Int) (h0 : 0 ≤ room) (h1 : room ≤ 16777216) (hb : Below w0.heap.size w0 w) (K : Nat → Prop) (hK : ∀ k, K k → k < w.heap.size) : Calls Tryz.prog 13 #[.int .i64 room] w fun e w' => e = .returned (.pointer (some ⟨w.heap.size + 1, 0, none⟩)) ∧ RunK w0 w' (w.heap.size + 1) w.heap.size (newD room) K ∧ Below w.heap.size w w' := by
  refine (new_run w0 w room h0 h1 hb).mono ?_
  rintro e w' ⟨rfl, hr, hbw⟩
  refine ⟨rfl, ⟨newD room, rfl, hr, ?_, fun k hk => Nat.lt_of_lt_of_le (hK k hk) hbw.size⟩, hbw⟩
  rintro k (rfl | rfl | ⟨f, hf, _⟩) hk
  · have := hK _ hk; omega
  · have := hK _ hk; omega
  · simp [newD] at hf
end Go.Proofs.YtcbbdkennmopdaaGreatDoor.PK
/- snap: what Load tells, and Save and Sweep do, as laws of a disk's state. -/
namespace Go.Proofs.YtcbbdkennmopdaaGreatDoor.PK
open Go.RowKit Go.Proofs.YtcbbdkennmopdaaGreatDoorW.PrintWords Go.Proofs.YtcbbdkennmopdaaGreatDoorW.PrintLast Go.Proofs.YtcbbdkennmopdaaGreatDoorW.PrintMore
open Go.Maps
def sMark : ByteArray := ⟨#[109, 97, 114, 107]⟩
def sFresh : ByteArray := ⟨#[109, 97, 114, 107, 46, 110, 101, 119]⟩
def sFront : ByteArray := ⟨#[115, 46]⟩
def sNone : ByteArray := ⟨#[]⟩
def nameN (n : Nat) : ByteArray := Crc.mkB (Crc.nameL n)
def mayS (n : Int) : Bool := decide (0 ≤ n) && decide (n ≤ 99999999)
def nameS (n : Int) : ByteArray := if mayS n = true then nameN n.toNat else sNone
def markB (n : Nat) : ByteArray := Crc.mkB (Crc.markL n)
def fileB (n : Nat) (d : ByteArray) : ByteArray := Crc.mkB (Crc.fileL n d.data.toList)
/-- The number that a mark tells. -/
def markedB (s : ByteArray) : Option Nat := Crc.markedL s.data.toList
def dataB (n : Nat) (s : ByteArray) : Option ByteArray := (Crc.dataL n s.data.toList).map Crc.mkB
def loadF (s : DS) (n : Nat) : Int × ByteArray × Int :=
  if (readD s (nameN n)).2 = 0 then (match dataB n (readD s (nameN n)).1 with | none => (0, sNone, 11) | some d => ((n : Int), d, 0)) else (0, sNone, 11)
def loadD (s : DS) : Int × ByteArray × Int :=
  if (readD s sMark).2 = 0 then (match markedB (readD s sMark).1 with | none => (0, sNone, 11) | some n => loadF s n) else (0, sNone, (readD s sMark).2)
def dropD (s : DS) (name : ByteArray) : DS × Int := ((deleteD s name).1, if (deleteD s name).2 = 8 then 0 else (deleteD s name).2)
/-- All texts of a list but one are deleted: the state, how many, the error. -/
def othersL (but : ByteArray) : List ByteArray → DS → Nat → DS × Int × Int
  | [], s, n => (s, (n : Int), 0)
  | x :: r, s, n => if x = but then othersL but r s n else if (deleteD s x).2 = 0 then othersL but r (deleteD s x).1 (n + 1) else ((deleteD s x).1, 0, (deleteD s x).2)
def othersD (s : DS) (but : ByteArray) : DS × Int × Int := othersL but (namesD s [sFront]) s 0
def needN (n : Nat) (d : ByteArray) : Nat := (fileB n d).size + (markB n).size
def st1 (n : Nat) (s : DS) : DS × Int := dropD s (nameN n)
def st2 (s : DS) : DS × Int := dropD s sFresh
def st3 (n : Nat) (d : ByteArray) (s : DS) : DS × Int := appS s (nameN n) (fileB n d)
def st4 (n : Nat) (s : DS) : DS × Int := syncD s [nameN n]
def st5 (n : Nat) (s : DS) : DS × Int := appS s sFresh (markB n)
def st6 (s : DS) : DS × Int := syncD s [sFresh]
def st7 (s : DS) : DS × Int := renameD s sFresh sMark
def st8 (n : Nat) (s : DS) : DS × Int := ((othersD s (nameN n)).1, (othersD s (nameN n)).2.2)
/-- Steps one by one, up to the first error. -/
def stepsD : List (DS → DS × Int) → DS → DS × Int
  | [], s => (s, 0)
  | f :: r, s => if (f s).2 = 0 then stepsD r (f s).1 else f s
def saveL (n : Nat) (d : ByteArray) : List (DS → DS × Int) := [st1 n, st2, st3 n d, st4 n, st5 n, st6, st7, st8 n]
def saveC (s : DS) (n : Int) (d : ByteArray) : Int :=
  if mayS n = false then 1 else if s.off = true then 7 else if (loadD s).2.2 = 0 ∧ (loadD s).1 = n then 9 else if 960000 < d.size then 5 else if freeD s < (needN 99999999 d : Int) ∨ 98 ≤ s.files.length then 6 else 0
def saveD (s : DS) (n : Int) (d : ByteArray) : DS × Int := if saveC s n d = 0 then stepsD (saveL n.toNat d) s else (s, saveC s n d)
def sweepD (s : DS) : DS × Int × Int :=
  if (loadD s).2.2 = 0 then (if (othersD s (nameS (loadD s).1)).2.2 = 0 then (if (deleteD (othersD s (nameS (loadD s).1)).1 sFresh).2 = 0 then ((deleteD (othersD s (nameS (loadD s).1)).1 sFresh).1, (othersD s (nameS (loadD s).1)).2.1 + 1, 0) else if (deleteD (othersD s (nameS (loadD s).1)).1 sFresh).2 = 7 then ((deleteD (othersD s (nameS (loadD s).1)).1 sFresh).1, 0, 7) else ((deleteD (othersD s (nameS (loadD s).1)).1 sFresh).1, (othersD s (nameS (loadD s).1)).2.1, 0)) else ((othersD s (nameS (loadD s).1)).1, 0, (othersD s (nameS (loadD s).1)).2.2)) else (s, 0, (loadD s).2.2)
end Go.Proofs.YtcbbdkennmopdaaGreatDoor.PK
/- What the printed Frame, Open and All come to: lists of bytes. -/
namespace Go.Proofs.YtcbbdkennmopdaaGreatDoor.PA
open Go.RowKit Go.Proofs.YtcbbdkennmopdaaGreatDoorW.PrintWords Go.Proofs.YtcbbdkennmopdaaGreatDoorW.PrintLast Go.Proofs.YtcbbdkennmopdaaGreatDoorW.PrintMore
open Go.Proofs.YtcbbdkennmopdaaGreatDoor.PR (wrap64_id wrap64_nat ends_at length_at)
theorem size_list (s : ByteArray) : s.data.toList.length = s.size := rfl
theorem ext_mkB (s : ByteArray) (a b : Nat) : s.extract a b = Crc.mkB ((s.data.toList.take b).drop a) := by
  apply ByteArray.ext
  rw [ByteArray.data_extract]
  apply Array.ext'
  rw [Array.toList_extract, List.extract_eq_take_drop]
  show List.take (b - a) (List.drop a s.data.toList) = List.drop a (List.take b s.data.toList)
  rw [List.drop_take]
theorem toList_mkB (l : List UInt8) : (Crc.mkB l).toList = l := by rw [ByteArray.toList_eq]; rfl
theorem bt_list (s : ByteArray) (i : Nat) : bt s (i : Int) = ((s.data.toList.getD i 0).toNat : Int) := by
  unfold bt
  by_cases h : i < s.size
  · rw [dif_pos (by simpa using h)]
    have hl : i < s.data.toList.length := h
    have : s.data.toList.getD i 0 = s[i] := by
      rw [List.getD_eq_getElem?_getD, List.getElem?_eq_getElem hl]; rfl
    rw [this]; rfl
  · rw [dif_neg (by simpa using h), List.getD_eq_getElem?_getD, List.getElem?_eq_none (by rw [size_list]; omega)]; rfl
theorem told_at (s : ByteArray) (h : 4 ≤ s.size) : seal_told.f s = some ((Crc.tell s.data.toList : Nat) : Int) := by
  unfold seal_told.f Crc.tell
  rw [if_pos h]
  have h0 := bt_list s 0
  have h1 := bt_list s 1
  have h2 := bt_list s 2
  have h3 := bt_list s 3
  rw [show bt s 0 = _ from h0, show bt s 1 = _ from h1, show bt s 2 = _ from h2, show bt s 3 = _ from h3]
  congr 1
theorem of_one (s : ByteArray) (h : s.size ≤ 9223372036854775807) : seal_Of.f [s] = some (Crc.bv (Crc.sumL s.data.toList)) := by
  unfold seal_Of.f
  rw [if_pos (by simpa using h)]
  rfl
/-- What is framed at the beginning, as texts and numbers. -/
def openB (s : ByteArray) : ByteArray × Int × Int := (Crc.mkB (Crc.openL s.data.toList).1, ((Crc.openL s.data.toList).2.1 : Int), ((Crc.openL s.data.toList).2.2 : Int))
theorem openB_of {s : ByteArray} {d : List UInt8} {n y : Nat} (h : Crc.openL s.data.toList = (d, n, y)) : openB s = (Crc.mkB d, (n : Int), (y : Int)) := by unfold openB; rw [h]
theorem open_at (s : ByteArray) (hs : s.size ≤ 4611686018427387904) : seal_Open.f 9 s = some (openB s) := by
  have hL := size_list s
  unfold seal_Open.f
  by_cases h1 : s.size < 4
  · rw [if_pos (by omega), openB_of (Crc.openL_short _ (by omega))]; rfl
  rw [if_neg (by omega), told_at s (by omega), Option.bind_some]
  by_cases h2 : 65536 < Crc.tell s.data.toList
  · rw [if_pos (by omega), openB_of (Crc.openL_big _ (by omega) h2)]; rfl
  rw [if_neg (by omega), wrap64_id (4 + ((Crc.tell s.data.toList : Nat) : Int)) (by omega) (by omega), wrap64_id _ (by omega) (by omega)]
  by_cases h3 : s.size < Crc.tell s.data.toList + 12
  · rw [if_pos (by omega), openB_of (Crc.openL_cut _ (by omega) (by omega) (by omega))]; rfl
  rw [if_neg (by omega), if_pos (by omega), if_pos (by omega)]
  have e1 : (4 + ((Crc.tell s.data.toList : Nat) : Int)).toNat = 4 + Crc.tell s.data.toList := by omega
  have e2 : (4 + ((Crc.tell s.data.toList : Nat) : Int) + 8).toNat = Crc.tell s.data.toList + 12 := by omega
  have e3 : (s.data.toList.take (4 + Crc.tell s.data.toList)).drop 4 = (s.data.toList.drop 4).take (Crc.tell s.data.toList) := by rw [List.drop_take, Nat.add_sub_cancel_left]
  rw [e1, e2, ext_mkB, ext_mkB, ext_mkB, List.drop_zero, of_one _ (by rw [Crc.mkB_size]; simp; omega), Option.bind_some, ends_at, Option.bind_some, if_pos (by omega), if_pos (by omega), toList_mkB, toList_mkB, Crc.mkB_list, e3]
  have hfi := Crc.frame_iff s.data.toList (by omega) (by omega)
  by_cases h5 : Crc.frame ((s.data.toList.drop 4).take (Crc.tell s.data.toList)) = s.data.toList.take (Crc.tell s.data.toList + 12)
  · rw [if_pos (hfi.1 h5), if_pos (by omega), openB_of (Crc.openL_good _ (by omega) (by omega) h5)]
    congr 3
    omega
  · rw [if_neg (fun h => h5 (hfi.2 h)), openB_of (Crc.openL_bad _ (by omega) (by omega) h5)]; rfl
/-- What is framed, one behind the other. -/
def allB (s : ByteArray) : List ByteArray × Int × Int := ((Crc.allL s.data.toList).1.map Crc.mkB, ((Crc.allL s.data.toList).2.1 : Int), ((Crc.allL s.data.toList).2.2 : Int))
theorem open_more (k : Nat) (hk : 9 ≤ k) (s : ByteArray) (hs : s.size ≤ 4611686018427387904) : seal_Open.f k s = some (openB s) := at_rounds (fun k => seal_Open.mono s k) hk (open_at s hs)
theorem drop_ext (s : ByteArray) (i : Nat) : s.extract i s.size = Crc.mkB (s.data.toList.drop i) := by
  rw [ext_mkB, List.take_of_length_le (by rw [size_list]; omega)]
theorem all_l0 (s : ByteArray) (hs : s.size ≤ 4611686018427387904) (n : Nat) : ∀ (i : Nat) (acc : List ByteArray) (k : Nat), i ≤ s.size → s.size - i ≤ n → n + 10 ≤ k → acc.length + n < 8796093022208 →
    seal_All.l0 k s acc (i : Int) = some (acc ++ (Crc.allL (s.data.toList.drop i)).1.map Crc.mkB, ((i + (Crc.allL (s.data.toList.drop i)).2.1 : Nat) : Int), ((Crc.allL (s.data.toList.drop i)).2.2 : Int)) := by
  induction n with
  | zero =>
    intro i acc k hi hn hk ha
    obtain ⟨k, rfl⟩ : ∃ m, k = m + 1 := ⟨k - 1, by omega⟩
    simp only [seal_All.l0]
    rw [if_neg (by omega), List.drop_eq_nil_of_le (by rw [size_list]; omega), Crc.allL_nil]
    simp
  | succ n ih =>
    intro i acc k hi hn hk ha
    obtain ⟨k, rfl⟩ : ∃ m, k = m + 1 := ⟨k - 1, by omega⟩
    simp only [seal_All.l0]
    by_cases hlt : i < s.size
    · have hdl : (s.data.toList.drop i).length = s.size - i := by rw [List.length_drop, size_list]
      have hne : s.data.toList.drop i ≠ [] := fun e => by rw [e] at hdl; simp at hdl; omega
      rw [if_pos (by omega), if_pos (by omega), if_pos (by omega), Int.toNat_natCast, drop_ext, open_more k (by omega) _ (by rw [Crc.mkB_size, hdl]; omega), Option.bind_some]
      unfold openB
      rw [Crc.mkB_list]
      dsimp only
      by_cases ho : (Crc.openL (s.data.toList.drop i)).2.2 = 0
      · have hp := Crc.openL_pos _ ho
        have hle := Crc.openL_le (s.data.toList.drop i)
        rw [hdl] at hle
        rw [if_pos (by omega), if_pos (by omega), wrap64_id _ (by omega) (by omega), show (i : Int) + ((Crc.openL (s.data.toList.drop i)).2.1 : Int) = ((i + (Crc.openL (s.data.toList.drop i)).2.1 : Nat) : Int) by omega,
          ih (i + (Crc.openL (s.data.toList.drop i)).2.1) _ k (by omega) (by omega) (by omega) (by simp; omega), Crc.allL_step _ hne ho, List.drop_drop]
        simp [Nat.add_assoc]
      · rw [if_neg (by omega), Crc.allL_end _ hne ho]
        simp
    · rw [if_neg (by omega), List.drop_eq_nil_of_le (by rw [size_list]; omega), Crc.allL_nil]
      simp
theorem all_at (s : ByteArray) (hs : s.size ≤ 1073741824) (k : Nat) (hk : s.size + 10 ≤ k) : seal_All.f k s = some (allB s) := by
  unfold seal_All.f allB
  have := all_l0 s (by omega) s.size 0 [] k (by omega) (by omega) hk (by simp; omega)
  rw [show (0 : Int) = ((0 : Nat) : Int) from rfl, this]
  simp
theorem same_l0 (l : List ByteArray) (hl : l.length ≤ 4611686018427387904) (n : Nat) : ∀ (i k : Nat), i + n = l.length → n + 1 ≤ k → PR.affluxref05_Same.l0 k l l (i : Int) = some true := by
  induction n with
  | zero =>
    intro i k hi hk
    obtain ⟨k, rfl⟩ : ∃ m, k = m + 1 := ⟨k - 1, by omega⟩
    simp only [PR.affluxref05_Same.l0]
    rw [if_neg (by omega)]
  | succ n ih =>
    intro i k hi hk
    obtain ⟨k, rfl⟩ : ∃ m, k = m + 1 := ⟨k - 1, by omega⟩
    simp only [PR.affluxref05_Same.l0]
    rw [if_pos (by omega), if_pos (by omega), if_pos (by omega), if_pos trivial, wrap64_id _ (by omega) (by omega), show (i : Int) + 1 = ((i + 1 : Nat) : Int) by omega, ih (i + 1) k (by omega) (by omega)]
theorem same_at (l : List ByteArray) (hl : l.length ≤ 4611686018427387904) (k : Nat) (hk : l.length + 1 ≤ k) : PR.affluxref05_Same.f k l l = some true := by
  unfold PR.affluxref05_Same.f
  rw [if_pos rfl, show (0 : Int) = ((0 : Nat) : Int) from rfl, same_l0 l hl l.length 0 k (by omega) hk]
end Go.Proofs.YtcbbdkennmopdaaGreatDoor.PA
