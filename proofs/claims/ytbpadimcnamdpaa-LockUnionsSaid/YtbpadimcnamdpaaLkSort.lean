/- lock: a row of wants, sorted in place by names. -/
import Derived.Test.YtbpadimcnamdpaaLkConcat
import Derived.Shelf.SlSortCmp.NoneTotal
namespace Go.Proofs.Ytbpadimcnamdpaa.PK
open Go.RowKit Go.Proofs.YtbpadimcnamdpaaW.PrintWords Go.Proofs.YtbpadimcnamdpaaW.PrintLast Go.Proofs.YtbpadimcnamdpaaW.PrintMore
instance : Inhabited W := ⟨z31⟩
def encW (x : W) : List Value := [.string x.f0, .bool x.f1]
theorem encW_len (x : W) : (encW x).length = 2 := rfl
theorem flat_at (d : Array W) (j : Nat) (hj : j < d.size * 2) : (Sort.flatK encW 2 d)[j]! = (encW d[j / 2]!)[j % 2]! := Sort.get_flatK encW 2 d j hj
theorem flat_chunk (d : Array W) (j : Nat) (hj : j < d.size) : ((Sort.flatK encW 2 d).toList.drop (j * 2)).take 2 = encW d[j]! := by
  have hl : (Sort.flatK encW 2 d).toList.length = d.size * 2 := by rw [Array.length_toList, Sort.size_flatK]
  apply List.ext_getElem
  · rw [List.length_take, List.length_drop, hl, encW_len]; omega
  · intro i h1 h2
    have hi : i < 2 := by rw [encW_len] at h2; exact h2
    rw [List.getElem_take, List.getElem_drop]
    have h3 := flat_at d (j * 2 + i) (by omega)
    rw [getElem!_pos _ _ (by rw [Sort.size_flatK]; omega), show (j * 2 + i) / 2 = j by omega, show (j * 2 + i) % 2 = i by omega, getElem!_pos _ _ (by rw [encW_len]; exact hi)] at h3
    rw [Array.getElem_toList]
    exact h3
theorem holds_of_R {w : World} {base g cap : Nat} {ok : Nat → Prop} {xs : List W} (h : k31.R 31 w base ok (.slice (some ⟨g, 0, none⟩) xs.length cap) xs) : Sort.HoldsK encW 2 w g 0 xs.toArray := by
  obtain ⟨hok, inner, ⟨hlen, hrow⟩, hlen2, hreps⟩ := h
  rcases hrow with ⟨he, _⟩ | ⟨g', cap', cur, he, hb, hheap, hle, hcm, hsz, htake⟩
  · cases he
  · injection he with he1 he2 he3
    injection he1 with he1
    injection he1 with he1
    subst he1
    intro j hj
    have hj2 : j < xs.length * 2 := by rw [Sort.size_flatK] at hj; simpa using hj
    have hi : j / 2 < xs.length := by omega
    constructor
    · unfold World.cell?
      rw [hheap]
      simp only [Option.isSome_none, Bool.false_eq_true, if_false, Nat.zero_add]
      rw [flat_at _ _ (by simpa using hj2)]
      have hc := hreps (j / 2) xs[j / 2] (List.getElem?_eq_getElem hi)
      have hch := k31_openM hc
      have h1 : inner[j]? = ((inner.drop (j / 2 * 2)).take 2)[j % 2]? := by
        rw [List.getElem?_take, if_pos (by omega), List.getElem?_drop, show j / 2 * 2 + j % 2 = j by omega]
      have h2 : cur[j]? = inner[j]? := by
        rw [← htake, List.getElem?_take, if_pos (by show j < xs.length * 2; exact hj2), Array.getElem?_toList]
      rw [h2, h1]
      show (List.take 2 (List.drop (j / 2 * 2) inner))[j % 2]? = _
      have hch' : List.take 2 (List.drop (j / 2 * 2) inner) = encW xs[j / 2] := hch
      rw [hch']
      have he : xs.toArray[j / 2]! = xs[j / 2] := by
        rw [getElem!_pos _ _ (by simpa using hi)]; simp
      rw [he, List.getElem?_eq_getElem (by rw [encW_len]; omega), getElem!_pos _ _ (by rw [encW_len]; omega)]
      rfl
    · unfold World.frozen?
      rw [hheap]
      simp
theorem R_sorted {w : World} {base g cap : Nat} {ok : Nat → Prop} {xs : List W} (h : k31.R 31 w base ok (.slice (some ⟨g, 0, none⟩) xs.length cap) xs) (m : Nat) (d : Array W) (os : Array Obj) (hs : d.size = xs.length) :
    k31.R 31 (sortWorldK encW 2 w g 0 m d os) base ok (.slice (some ⟨g, 0, none⟩) xs.length cap) d.toList ∧ w.grownBy (sortWorldK encW 2 w g 0 m d os) (some g) := by
  obtain ⟨hok, inner, ⟨hlen, hrow⟩, hlen2, hreps⟩ := h
  rcases hrow with ⟨he, _⟩ | ⟨g', cap', cur, he, hb, hheap, hle, hcm, hsz, htake⟩
  · cases he
  · injection he with he1 he2 he3
    injection he1 with he1
    injection he1 with he1
    subst he1 he3
    have hlt : g < w.heap.size := (Array.getElem?_eq_some_iff.1 hheap).1
    have hheap' : ∀ k, k < w.heap.size → (sortWorldK encW 2 w g 0 m d os).heap[k]? = if g = k then (w.heap[k]?).map (Sort.onCells (Sort.putCells id 0 (Sort.flatK encW 2 d))) else w.heap[k]? := by
      intro k hk
      show ((w.heap.modify g (Sort.onCells (Sort.putCells id 0 (Sort.flatK encW 2 d)))) ++ os)[k]? = _
      rw [Array.getElem?_append, if_pos (by rw [Array.size_modify]; exact hk), Array.getElem?_modify]
    have hg' : (sortWorldK encW 2 w g 0 m d os).heap[g]? = some (.cells (Sort.putCells id 0 (Sort.flatK encW 2 d) cur) 31 (0, 0)) := by
      rw [hheap' g hlt, if_pos rfl, hheap]
      rfl
    have hdl : d.toList.length = xs.length := (Array.length_toList (xs := d)).trans hs
    have hF : (Sort.flatK encW 2 d).toList.length = xs.length * 2 := by rw [Array.length_toList, Sort.size_flatK, hs]
    refine ⟨⟨hok, (Sort.flatK encW 2 d).toList, ⟨by rw [hF, hdl]; rfl, .inr ⟨g, cap, _, by rw [hdl], hb, hg', by rw [hdl]; exact hle, hcm, ?_, ?_⟩⟩, by rw [hF, hdl]; rfl, ?_⟩, ?_⟩
    · show (Array.mapIdx _ cur).size = _
      rw [Array.size_mapIdx]; exact hsz
    · rw [hdl]
      apply List.ext_getElem
      · rw [List.length_take, Array.length_toList, hF]
        show min _ (Array.mapIdx _ cur).size = _
        rw [Array.size_mapIdx, hsz]
        show min (xs.length * 2) (cap * 2) = _
        omega
      · intro i h1 h2
        rw [List.getElem_take, Array.getElem_toList, Array.getElem_toList]
        rw [hF] at h2
        unfold Sort.putCells
        rw [Array.getElem_mapIdx, if_pos ⟨Nat.zero_le _, by rw [Sort.size_flatK, hs]; omega⟩, Nat.sub_zero, getElem!_pos _ _ (by rw [Sort.size_flatK, hs]; exact h2)]
        rfl
    · intro j p hp
      have hj : j < d.size := by
        have := (List.getElem?_eq_some_iff.1 hp).1
        simpa using this
      have hpe : p = d[j]! := by
        rw [getElem!_pos d j hj]
        rw [Array.getElem?_toList, Array.getElem?_eq_getElem hj] at hp
        exact (Option.some.inj hp).symm
      show k31.M _ _ _ p (((Sort.flatK encW 2 d).toList.drop (j * 2)).take 2)
      rw [flat_chunk d j hj, ← hpe]
      exact k31_mkM _ _ _ p
    · refine ⟨rfl, rfl, rfl, ?_, fun k hk hne => ?_⟩
      · show w.heap.size ≤ ((w.heap.modify g _) ++ os).size
        rw [Array.size_append, Array.size_modify]; omega
      · rw [hheap' k hk, if_neg (fun e => hne (by rw [e]))]
def cmpW (x y : W) : Int := cmpS x.f0 y.f0
/-- A list, sorted by names. -/
def sortL (xs : List W) : List W := (Sort.insertionSort (ltOf cmpW) xs.toArray 0 xs.length).toList
set_option maxHeartbeats 1000000 in
set_option maxRecDepth 100000 in
theorem less_calls (x y : W) (w : World) : Calls Try.prog 24 #[.agg #[.string x.f0, .bool x.f1], .agg #[.string y.f0, .bool y.f1]] w fun e w' => e = .returned (.int .i64 (cmpW x y)) ∧ ∃ q os', w' = Sort.grow (w.drewN q) os' := by
  obtain ⟨r, hr⟩ : ∃ r, r = cmpW x y := ⟨_, rfl⟩
  rw [← hr]
  have HR : Aside0 (r = cmpS x.f0 y.f0) := ⟨hr⟩
  clear hr
  go_enter Try.func24, Try.ntmps24
  go_wp2_with fail
  refine (cmp_calls _ _ r HR _).mono ?_
  rintro e w1 ⟨rfl, rfl⟩
  go_wp2_with fail
  go_ret
  exact ⟨rfl, 0, _, by rw [Sort.alloc_eq_grow, Sort.alloc_eq_grow, Sort.grow_grow]; rfl⟩
theorem cmpLays (blk off size : Nat) (w : World) : CmpLays Try.prog 24 #[] encW 2 cmpW blk off size w :=
  fun _ _ _ _ x y => less_calls x y _
theorem size_ins (d : Array W) (a b : Nat) : (Sort.insertionSort (ltOf cmpW) d a b).size = d.size := by
  unfold Sort.insertionSort
  have inner : ∀ (j a : Nat) (d : Array W), (Sort.insInner (ltOf cmpW) a j d).size = d.size := by
    intro j
    induction j with
    | zero => intro a d; rfl
    | succ j ih =>
      intro a d
      simp only [Sort.insInner]
      split
      · rw [ih, Sort.size_swp]
      · rfl
  have outer : ∀ (n i : Nat) (d : Array W), b - i = n → (Sort.insOuter (ltOf cmpW) a b i d).size = d.size := by
    intro n
    induction n with
    | zero =>
      intro i d hi
      rw [Sort.insOuter, if_neg (by omega)]
    | succ n ih =>
      intro i d hi
      rw [Sort.insOuter, if_pos (by omega), ih (i + 1) _ (by omega), inner]
  exact outer _ _ d rfl
theorem ins_calls (A : Option Addr) (cap : Nat) (xs : List W) (a b base : Nat) (ok : Nat → Prop) (w : World) (h : k31.R 31 w base ok (.slice A xs.length cap) xs) (hab : a ≤ b) (hb : b ≤ xs.length) (hsm : xs.length ≤ 1073741824) :
    Calls Try.prog 45 #[.slice A xs.length cap, .int .i64 a, .int .i64 b, .func (.func 24) #[] #[]] w fun e w' => e = .returned (.tuple #[]) ∧ k31.R 31 w' base ok (.slice A xs.length cap) (Sort.insertionSort (ltOf cmpW) xs.toArray a b).toList ∧ w.grownBy w' (Value.slice A xs.length cap).ownBlock := by
  by_cases h0 : A = none
  · subst h0
    have hl : xs.length = 0 := by
      obtain ⟨hok, inner, ⟨hlen, hrow⟩, _⟩ := h
      rcases hrow with ⟨he, h0⟩ | ⟨g', cap', cur, he, _⟩
      · exact h0
      · cases he
    obtain rfl := List.eq_nil_of_length_eq_zero hl
    obtain rfl : b = 0 := by simpa using hb
    obtain rfl : a = 0 := by omega
    refine (AnyF.insertionSortCmpFunc_none Try.insW none cap _ w).mono ?_
    rintro e w1 ⟨rfl, rfl⟩
    refine ⟨rfl, ?_, rfl, rfl, rfl, Nat.le_refl _, fun _ _ _ => rfl⟩
    have : (Sort.insertionSort (ltOf cmpW) ([] : List W).toArray 0 0).toList = [] := by
      unfold Sort.insertionSort
      rw [Sort.insOuter, if_neg (by omega)]
    rw [this]
    exact h
  · obtain ⟨g, rfl⟩ : ∃ g, A = some ⟨g, 0, none⟩ := by
      obtain ⟨hok, inner, ⟨hlen, hrow⟩, _⟩ := h
      rcases hrow with ⟨he, _⟩ | ⟨g', cap', cur, he, _⟩
      · injection he with he; exact absurd he h0
      · injection he with he; exact ⟨g', he⟩
    have hlt : g < w.heap.size := Kd.R_lt h g (by simp [Value.ownBlock])
    have eg : ∀ args w, (callFunc 24 args).run Try.prog w = .ok (.enter 24 args) w := enters_of Try.func24 (by kernel_rfl) rfl
    have hcon := AnyQ.insertionSortCmpFunc Try.insW 2 Try.isAgg31 Try.sizeOf31 encW (fun _ => rfl) (fun x v hv => by simp [encW] at hv; rcases hv with rfl | rfl <;> rfl) cmpW 24 #[] g 0 cap a b xs.toArray w eg (cmpLays g 0 _ w) (holds_of_R h) hlt hab (by simpa using hb) (by simp; omega)
    refine hcon.mono ?_
    rintro e w1 ⟨rfl, n, os, rfl⟩
    have hs := R_sorted h n (Sort.insertionSort (ltOf cmpW) xs.toArray a b) os (by rw [size_ins _ _ _]; simp)
    exact ⟨rfl, hs.1, hs.2⟩
theorem ins_none (d : Array W) (a : Nat) : Sort.insertionSort (ltOf cmpW) d a a = d := by
  unfold Sort.insertionSort
  rw [Sort.insOuter, if_neg (by omega)]
theorem sortL_length (xs : List W) : (sortL xs).length = xs.length := by
  unfold sortL
  rw [Array.length_toList, size_ins]
  simp
theorem grown_trans {w w1 w2 : World} {row : Option Nat} (h : w.grownBy w1 row) (k : w1.grownBy w2 row) : w.grownBy w2 row :=
  ⟨k.os.trans h.os, k.tape.trans h.tape, k.output.trans h.output, Nat.le_trans h.size k.size, fun i hi hne => (k.block i (Nat.lt_of_lt_of_le hi h.size) hne).trans (h.block i hi hne)⟩
theorem ins_callsI (A : Option Addr) (cap : Nat) (zs : List W) (n : Nat) (hz : zs.length = n) (a b : Nat) (ai bi : Int) (hai : ai = (a : Int)) (hbi : bi = (b : Int)) (base : Nat) (ok : Nat → Prop) (w : World) (h : k31.R 31 w base ok (.slice A n cap) zs) (hab : a ≤ b) (hb : b ≤ n) (hsm : n ≤ 20) :
    Calls Try.prog 45 #[.slice A n cap, .int .i64 ai, .int .i64 bi, .func (.func 24) #[] #[]] w fun e w' => e = .returned (.tuple #[]) ∧ (k31.R 31 w' base ok (.slice A n cap) (Sort.insertionSort (ltOf cmpW) zs.toArray a b).toList ∧ w.grownBy w' (Value.slice A n cap).ownBlock) := by
  subst hai hbi hz
  exact ins_calls A cap zs a b base ok w h hab hb (by omega)
set_option maxHeartbeats 1000000 in
set_option maxRecDepth 100000 in
theorem stable_calls (A : Option Addr) (cap : Nat) (xs : List W) (base : Nat) (ok : Nat → Prop) (w : World) (h : k31.R 31 w base ok (.slice A xs.length cap) xs) (hsm : xs.length ≤ 20) :
    Calls Try.prog 38 #[.slice A xs.length cap, .int .i64 xs.length, .func (.func 24) #[] #[]] w fun e w' => e = .returned (.tuple #[]) ∧ k31.R 31 w' base ok (.slice A xs.length cap) (sortL xs) ∧ w.grownBy w' (Value.slice A xs.length cap).ownBlock := by
  have HO := Aside0.mk h
  clear h
  have HI := Aside0.mk (fun (a b : Nat) (ai bi : Int) (hai : ai = (a : Int)) (hbi : bi = (b : Int)) (w1 : World) (zs : List W) (hz : zs.length = xs.length) (h1 : k31.R 31 w1 base ok (.slice A xs.length cap) zs) (hab : a ≤ b) (hb : b ≤ xs.length) =>
    ins_callsI A cap zs xs.length hz a b ai bi hai hbi base ok w1 h1 hab hb hsm)
  have HL := Aside0.mk (sortL_length xs)
  go_enter Try.func38, Try.ntmps38
  go_wp2
  go_loopg [7, 8] 2 (fun kq v7 v8 w' => (v7 = .int .i64 0 ∧ v8 = .int .i64 20 ∧ kq = 2 ∧ w = w') ∨ (v7 = .int .i64 20 ∧ v8 = .int .i64 40 ∧ kq = 1 ∧ Aside0 (xs.length = 20) ∧ Aside0 (k31.R 31 w' base ok (.slice A xs.length cap) (sortL xs) ∧ w.grownBy w' (Value.slice A xs.length cap).ownBlock)))
  case atStart => exact .inl ⟨rfl, rfl, rfl, rfl⟩
  case round =>
    rcases hrel with ⟨rfl, rfl, rfl, rfl⟩ | ⟨rfl, rfl, rfl, H20, HR2⟩
    · by_cases h20 : xs.length = 20
      · have hle : (20 : Int) ≤ (xs.length : Int) := by omega
        have H20 := Aside0.mk h20
        clear h20
        go_wp2_with fail
        have h2 := HI.out 0 20 0 20 rfl rfl w xs rfl HO.out (by omega) (by have := H20.out; omega)
        refine h2.mono ?_
        rintro e w3 ⟨rfl, ho3, hg3⟩
        have HR3 : Aside0 (k31.R 31 w3 base ok (.slice A xs.length cap) (sortL xs) ∧ w.grownBy w3 (Value.slice A xs.length cap).ownBlock) := ⟨by unfold sortL; rw [H20.out]; rw [H20.out] at ho3; exact ho3, hg3⟩
        clear h2 ho3 hg3
        go_wp2_with fail
        go_roundg 1
        case measure => omega
        case rel => exact .inr ⟨rfl, rfl, rfl, H20, HR3⟩
      · have hle : ¬ (20 : Int) ≤ (xs.length : Int) := by omega
        have hlt : ¬ (20 : Int) < (xs.length : Int) := by omega
        go_wp2_with fail
        have h2 := HI.out 0 xs.length 0 xs.length rfl rfl w xs rfl HO.out (by omega) (by omega)
        refine h2.mono ?_
        rintro e w3 ⟨rfl, ho3, hg3⟩
        have HO3 := Aside0.mk ho3
        have HG3 := Aside0.mk hg3
        clear h2 ho3 hg3
        go_wp2_with fail
        go_loopg [6] 1 (fun kq v6 w' => v6 = .int .i64 20 ∧ w3 = w')
        case atStart => exact ⟨rfl, rfl⟩
        case round =>
          obtain ⟨rfl, rfl⟩ := hrel
          go_wp2
          go_end0
          exact ⟨rfl, HO3.out, HG3.out⟩
    · have hle : ¬ (40 : Int) ≤ (xs.length : Int) := by omega
      have hlt : ¬ (20 : Int) < (xs.length : Int) := by omega
      have hge : 20 ≤ xs.length := Nat.le_of_eq H20.out.symm
      go_wp2_with fail
      have h2 := HI.out 20 xs.length 20 xs.length rfl rfl wr (sortL xs) HL.out HR2.out.1 hge (by omega)
      refine h2.mono ?_
      rintro e w3 ⟨rfl, ho3, hg3⟩
      have HO3 : Aside0 (k31.R 31 w3 base ok (.slice A xs.length cap) (sortL xs)) := ⟨by rw [H20.out, ins_none] at ho3; exact H20.out ▸ ho3⟩
      have HG3 : Aside0 (w.grownBy w3 (Value.slice A xs.length cap).ownBlock) := ⟨grown_trans HR2.out.2 hg3⟩
      clear h2 ho3 hg3 HR2
      go_wp2_with fail
      go_loopg [6] 1 (fun kq v6 w' => v6 = .int .i64 20 ∧ w3 = w')
      case atStart => exact ⟨rfl, rfl⟩
      case round =>
        obtain ⟨rfl, rfl⟩ := hrel
        go_wp2
        go_end0
        exact ⟨rfl, HO3.out, HG3.out⟩
set_option maxRecDepth 100000 in
theorem sort_calls (A : Option Addr) (cap : Nat) (xs : List W) (base : Nat) (ok : Nat → Prop) (w : World) (h : k31.R 31 w base ok (.slice A xs.length cap) xs) (hsm : xs.length ≤ 20) :
    Calls Try.prog 23 #[.slice A xs.length cap, .func (.func 24) #[] #[]] w fun e w' => e = .returned (.tuple #[]) ∧ k31.R 31 w' base ok (.slice A xs.length cap) (sortL xs) ∧ w.grownBy w' (Value.slice A xs.length cap).ownBlock := by
  have HO := Aside0.mk h
  clear h
  go_enter Try.func23, Try.ntmps23
  go_wp2_with fail
  refine (stable_calls A cap xs base ok w HO.out hsm).mono ?_
  rintro e w1 ⟨rfl, ho, hg⟩
  have HO1 := Aside0.mk ho
  have HG1 := Aside0.mk hg
  clear ho hg
  go_wp2_with fail
  go_end0
  exact ⟨rfl, HO1.out, HG1.out⟩
end Go.Proofs.Ytbpadimcnamdpaa.PK
