/- The contract of slices.DeleteFunc at spans, the function being grain.Empty. No condition beyond the row's. -/
import Derived.Test.YtabmablgaifidaaU7
import Derived.Lib.SliceRun
namespace Go.Proofs.Ytabmablgaifidaa.PGrain
open Go.RowKit Go.Proofs.YtabmablgaifidaaW.PrintWords
set_option linter.unusedVariables false

/-! ### Plainly -/
def filterS (l : List S26) : List S26 := l.filter fun s => !emptyS s
/-- Of l the first j are gone through; i of them were kept; ys is what the row holds. -/
def Kept' (l ys : List S26) (i j : Nat) : Prop := ys.length = l.length ∧ i < j ∧ j ≤ l.length ∧ ys.take i = filterS (l.take j) ∧ ∀ m, j ≤ m → ys[m]? = l[m]?
theorem filterS_snoc (l : List S26) (j : Nat) (h : j < l.length) : filterS (l.take (j + 1)) = filterS (l.take j) ++ (if emptyS l[j] = true then [] else [l[j]]) := by
  unfold filterS
  rw [List.take_succ_eq_append_getElem h, List.filter_append]
  congr 1
  cases h2 : emptyS l[j] <;> simp [h2]
theorem filterS_all : ∀ (l : List S26), (∀ i (h : i < l.length), emptyS l[i] = false) → filterS l = l := fun l h => by
  unfold filterS
  rw [List.filter_eq_self]
  intro s hs
  obtain ⟨i, hi, rfl⟩ := List.mem_iff_getElem.1 hs
  rw [h i hi]; rfl
theorem Kept'.start {l : List S26} {k : Nat} (h : k < l.length) (he : emptyS l[k] = true) (ha : ∀ i (hi : i < k), emptyS l[i] = false) : Kept' l l k (k + 1) := by
  refine ⟨rfl, by omega, by omega, ?_, fun m _ => rfl⟩
  rw [filterS_snoc l k h, if_pos he, List.append_nil, filterS_all]
  intro i hi
  rw [List.length_take] at hi
  rw [List.getElem_take]
  exact ha i (by omega)
theorem Kept'.keep {l ys : List S26} {i j : Nat} (h : Kept' l ys i j) (hj : j < l.length) (he : emptyS l[j] = false) : Kept' l (ys.set i l[j]) (i + 1) (j + 1) := by
  obtain ⟨h1, h2, h3, h4, h5⟩ := h
  refine ⟨by simpa using h1, by omega, by omega, ?_, fun m hm => ?_⟩
  · rw [filterS_snoc l j hj, he, ← h4]
    apply List.ext_getElem?
    intro m
    rw [List.getElem?_take, List.getElem?_set, List.getElem?_append, List.length_take, List.getElem?_take]
    rcases Nat.lt_trichotomy m i with hm | hm | hm
    · rw [if_pos (by omega), if_neg (by omega), if_pos (by omega), if_pos hm]
    · subst hm
      rw [if_pos (by omega), if_pos rfl, if_pos (by omega), if_neg (by omega)]
      have : m - min m ys.length = 0 := by omega
      rw [this]
      rfl
    · rw [if_neg (by omega), if_neg (by omega)]
      have : ∃ q, m - min i ys.length = q + 1 := ⟨m - i - 1, by omega⟩
      obtain ⟨q, hq⟩ := this
      rw [hq]
      rfl
  · rw [List.getElem?_set, if_neg (by omega)]
    exact h5 m (by omega)
theorem Kept'.skip {l ys : List S26} {i j : Nat} (h : Kept' l ys i j) (hj : j < l.length) (he : emptyS l[j] = true) : Kept' l ys i (j + 1) := by
  obtain ⟨h1, h2, h3, h4, h5⟩ := h
  exact ⟨h1, by omega, by omega, by rw [filterS_snoc l j hj, if_pos he, List.append_nil, h4], fun m hm => h5 m (by omega)⟩
theorem Kept'.get {l ys : List S26} {i j : Nat} (h : Kept' l ys i j) (hj : j < l.length) : ∃ hj' : j < ys.length, ys[j] = l[j] := by
  obtain ⟨h1, h2, h3, h4, h5⟩ := h
  have := h5 j (Nat.le_refl _)
  rw [List.getElem?_eq_getElem hj, List.getElem?_eq_getElem (by omega)] at this
  exact ⟨by omega, by simpa using this⟩
theorem Kept'.done {l ys : List S26} {i : Nat} (h : Kept' l ys i l.length) : ys.take i = filterS l ∧ i = (filterS l).length ∧ i < l.length := by
  obtain ⟨h1, h2, h3, h4, h5⟩ := h
  rw [List.take_length] at h4
  refine ⟨h4, ?_, h2⟩
  rw [← h4, List.length_take]
  omega

/-! ### A run of stores -/
theorem setCells_blk {g : Nat} {t : TypeId} : ∀ (vs : List Value) (o : Nat) (W : World) (cur : Array Value), W.heap[g]? = some (.cells cur t (0, 0)) → ∃ cur', (W.setCells g o vs).heap[g]? = some (.cells cur' t (0, 0)) ∧ cur'.size = cur.size ∧ ∀ i, i < o → cur'[i]? = cur[i]?
  | [], _, _, cur, h => ⟨cur, h, rfl, fun _ _ => rfl⟩
  | v :: r, o, W, cur, h => by
    obtain ⟨cur', h1, h2, h3⟩ := setCells_blk r (o + 1) _ _ (blk_set h o v)
    refine ⟨cur', h1, by rw [h2]; simp, fun i hi => ?_⟩
    rw [h3 i (by omega), Array.getElem?_setIfInBounds, if_neg (by omega)]
theorem setCells_grown (g : Nat) : ∀ (vs : List Value) (o : Nat) (W : World), W.grownBy (W.setCells g o vs) (some g)
  | [], _, W => World.grownBy.refl W _
  | v :: r, o, W => by
    have h1 : W.grownBy (W.setCell ⟨g, o, none⟩ v) (some g) := ⟨rfl, rfl, rfl, by simp [World.setCell], fun k _ hk => Below.heap_setCell W _ v k (fun e => hk (by rw [e]))⟩
    exact World.grownBy.trans h1 (setCells_grown g r (o + 1) _)
theorem Row.setCells {W : World} {g cap : Nat} {l : List S26} (h : Row W g cap l) (i : Nat) (vs : List Value) : Row (W.setCells g (i * 2) vs) g cap (l.take i) := by
  obtain ⟨cur, hc, hm, hs, hl, hx⟩ := h.take i
  obtain ⟨cur', h1, h2, h3⟩ := setCells_blk vs (i * 2) W cur hc
  refine ⟨cur', h1, hm, by rw [h2, hs], hl, fun j hj => ?_⟩
  have hj' : j < i := by rw [List.length_take] at hj; omega
  rw [h3 _ (by omega), h3 _ (by omega)]
  exact hx j hj
def zerosS (n : Nat) : List Value := (Builtin.zeroCells (Value.agg #[.int .i64 0, .int .i64 0]).cells n).toList
theorem run_clear_spans (W : World) (ty : TypeId) (g o n c : Nat) (hn : 0 < n) (hc : ∀ j, j < n * 2 → (W.cell? ⟨g, o + j, none⟩).isSome = true) (hf : ∀ j, j < n * 2 → W.frozen? ⟨g, o + j, none⟩ = false) :
    (Builtin.clear_ #[27] ty #[.slice (some ⟨g, o, none⟩) n c]).run Try.prog W = .ok (.tuple #[]) (W.setCells g o (zerosS n)) := by
  unfold zerosS
  have hz : ∀ w, (zeroValue 26).run Try.prog w = .ok (.agg #[.int .i64 0, .int .i64 0]) w := fun w => by kernel_rfl
  have hlen : (Builtin.zeroCells (Value.agg #[.int .i64 0, .int .i64 0]).cells n).toList.length = n * 2 := by simp [Builtin.zeroCells, Value.cells]
  have hst := run_storeCells_cells (P := Try.prog) g o (Builtin.zeroCells (Value.agg #[.int .i64 0, .int .i64 0]).cells n).toList 0 W (by rw [hlen]; simpa using hc) (by rw [hlen]; simpa using hf) (by
    intro v hv
    simp only [Builtin.zeroCells, Value.cells, Array.toList_map, List.mem_map] at hv
    obtain ⟨i, _, rfl⟩ := hv
    rcases Nat.mod_two_eq_zero_or_one i with e | e <;> simp [e, Value.oneCell'])
  simp only [Nat.add_zero] at hst
  obtain ⟨m, rfl⟩ : ∃ m, n = m + 1 := ⟨n - 1, by omega⟩
  simp [Builtin.clear_, run_underlying Try.underlying27, hz, hst]

theorem below_grown {w w' : World} (h : Below w.heap.size w w') (row : Option Nat) : w.grownBy w' row := ⟨h.os, h.tape, h.output, h.size, fun k hk _ => h.block k hk⟩
theorem set_grown (W : World) (g o : Nat) (v : Value) : W.grownBy (W.setCell ⟨g, o, none⟩ v) (some g) := ⟨rfl, rfl, rfl, by simp [World.setCell], fun k _ hk => Below.heap_setCell W _ v k (fun e => hk (by rw [e]))⟩
theorem Row.isSome {W : World} {g cap : Nat} {l : List S26} (h : Row W g cap l) (i : Nat) (hi : i < cap * 2) : (W.cell? ⟨g, i, none⟩).isSome = true := by
  obtain ⟨cur, hc, _, hs, _⟩ := h
  rw [blk_cell hc, Array.getElem?_eq_getElem (by omega)]
  rfl

set_option maxHeartbeats 2000000 in
theorem delete_calls (g cap : Nat) (l : List S26) (w : World) (hr : Row w g cap l) (hm : l.length ≤ 8796093022208) :
    Calls Try.prog 25 #[.slice (some ⟨g, 0, none⟩) l.length cap, .func (.func 20) #[] #[]] w fun e w' => e = .returned (.slice (some ⟨g, 0, none⟩) (filterS l).length cap) ∧ Row w' g cap (filterS l) ∧ w.grownBy w' (some g) := by
  have HR := Aside0.mk hr
  have hle := hr.le
  unfold maxLen at hle
  have HI := Aside0.mk (index_calls g cap l w hr hm)
  have hglt := hr.lt
  clear hr
  have e20 := enters20
  go_enter Try.func25, Try.ntmps25
  go_wp2_with fail
  refine HI.out.mono ?_
  rintro e w2 ⟨n, rfl, hb, hn⟩
  clear HI
  have HB := Aside0.mk hb
  have HG := Aside0.mk ((World.grownBy.refl w (some g)) : w.grownBy w (some g))
  clear hb
  rcases hn with ⟨rfl, hall⟩ | ⟨k, rfl, hk, he, ha⟩
  · have HF := Aside0.mk (filterS_all l hall)
    clear hall
    go_wp2
    go_ret
    rw [HF.out]
    exact ⟨rfl, HR.out.below HB.out, ⟨HB.out.os, HB.out.tape, HB.out.output, HB.out.size, fun k hk _ => HB.out.block k hk⟩⟩
  · have HK := Aside0.mk (Kept'.start hk he ha)
    have hne : ((k : Int) == -1) = false := beq_eq_false_iff_ne.2 (by omega)
    clear he ha
    have HG2 := Aside0.mk (⟨HB.out.os, HB.out.tape, HB.out.output, HB.out.size, fun k hk _ => HB.out.block k hk⟩ : w.grownBy w2 (some g))
    have HR2 := Aside0.mk (HR.out.below HB.out)
    clear HG HB HR
    go_wp2
    go_loopw [5, 6] (fun u v wr => ∃ (i j : Nat) (ys : List S26), u = .int .i64 i ∧ v = .int .i64 j ∧ j ≤ l.length ∧ i < j ∧ Aside0 (Kept' l ys i j) ∧ Aside0 (Row wr g cap ys) ∧ Aside0 (w.grownBy wr (some g))) (fun _ v _ => l.length - (intOf v).toNat)
    case atStart => exact ⟨k, k + 1, l, rfl, by go_num, by omega, by omega, HK, HR2, HG2⟩
    case round =>
      clear HK HG2 HR2
      obtain ⟨i, j, ys, rfl, rfl, hj, hij, HK, HR, HG⟩ := hrel
      by_cases hlt : j < l.length
      · obtain ⟨hj', hget⟩ := HK.out.get hlt
        obtain ⟨c0, c1⟩ := HR.out.cell j hj'
        rw [hget] at c0 c1
        have HBo := Aside0.mk (fun o => below_alloc (Below.refl _ wr) o)
        clear hget
        go_wp2_with fail
        refine (empty_calls _ _ _).mono ?_
        rintro e w3 ⟨rfl, hb⟩
        have hR3 := (HR.out.below (HBo.out _)).below hb
        obtain ⟨d0, d1⟩ := hR3.cell i (by omega)
        have f0 := hR3.free (i * 2)
        have f1 := hR3.free (i * 2 + 1)
        have hv := blk_below (blk_new wr _) hb
        have v0 := (blk_cell hv 0).trans rfl
        have v1 := (blk_cell hv 1).trans rfl
        have HR3 := Aside0.mk hR3
        have HB3 := Aside0.mk (below_then (HBo.out _) (by simp) hb)
        clear hR3 hv hb c0 c1
        generalize ys[i].f0 = p0 at d0
        generalize ys[i].f1 = p1 at d1
        cases hd : decide (l[j].f0 ≥ l[j].f1) with
        | true =>
          have HD := Aside0.mk hd
          clear hd
          go_wp2
          go_roundw
          case rel =>
            exact ⟨i, j + 1, ys, rfl, by go_num, by omega, by omega, ⟨HK.out.skip hlt HD.out⟩, HR3, ⟨HG.out.trans (below_grown HB3.out _)⟩⟩
          case measure => simp [intOf]; omega
        | false =>
          have HD := Aside0.mk hd
          clear hd
          go_wp2
          go_roundw
          case rel =>
            exact ⟨i + 1, j + 1, ys.set i l[j], by go_num, by go_num, by omega, by omega, ⟨HK.out.keep hlt HD.out⟩, ⟨HR3.out.set i (by omega) _ _⟩, ⟨(HG.out.trans (below_grown HB3.out _)).trans ((set_grown _ _ _ _).trans (set_grown _ _ _ _))⟩⟩
          case measure => simp [intOf]; omega
      · obtain rfl : j = l.length := by omega
        obtain ⟨h1, h2, h3⟩ := HK.out.done
        have H1 := Aside0.mk h1
        have H2 := Aside0.mk h2
        have hyl := HK.out.1
        have hcl := fun ty => run_clear_spans wr ty g (i * 2) (l.length - i) (cap - i) (by omega) (fun q hq => HR.out.isSome _ (by omega)) (fun q _ => HR.out.free _)
        have hi0 : (0 : Int) ≤ (i : Int) := by omega
        have hi1 : (i : Int) ≤ (l.length : Int) := by omega
        have hi2 : (i : Int) ≤ (cap : Int) := by omega
        clear h1 h2 hyl
        go_wp2
        go_ret
        refine ⟨?_, ?_, HG.out.trans (setCells_grown g _ _ _)⟩
        · rw [← H2.out]; rfl
        · have := HR.out.setCells i (zerosS (l.length - i))
          rwa [H1.out] at this
end Go.Proofs.Ytabmablgaifidaa.PGrain
