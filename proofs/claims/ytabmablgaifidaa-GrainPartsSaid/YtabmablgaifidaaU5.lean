/- A block that holds a row of spans: what its cells say, stores into it, the sort's words for it. No condition. -/
import Derived.Test.YtabmablgaifidaaU3
import Derived.Shelf.SlSortCmp.WholeK
namespace Go.Proofs.Ytabmablgaifidaa.PGrain
open Go.RowKit Go.Proofs.YtabmablgaifidaaW.PrintWords
set_option linter.unusedVariables false

def Row (W : World) (g cap : Nat) (l : List S26) : Prop :=
  ∃ cur, W.heap[g]? = some (.cells cur 26 (0, 0)) ∧ cap ≤ maxLen ∧ cur.size = cap * 2 ∧ l.length ≤ cap ∧ ∀ i (h : i < l.length), cur[i * 2]? = some (.int .i64 l[i].f0) ∧ cur[i * 2 + 1]? = some (.int .i64 l[i].f1)
theorem Row.lt {W : World} {g cap : Nat} {l : List S26} (h : Row W g cap l) : g < W.heap.size := by
  obtain ⟨cur, hc, _⟩ := h
  exact blk_lt hc
theorem Row.le {W : World} {g cap : Nat} {l : List S26} (h : Row W g cap l) : l.length ≤ cap ∧ cap ≤ maxLen := by
  obtain ⟨cur, _, hm, _, hl, _⟩ := h
  exact ⟨hl, hm⟩
theorem Row.cell {W : World} {g cap : Nat} {l : List S26} (h : Row W g cap l) (i : Nat) (hi : i < l.length) : W.cell? ⟨g, i * 2, none⟩ = some (.int .i64 l[i].f0) ∧ W.cell? ⟨g, i * 2 + 1, none⟩ = some (.int .i64 l[i].f1) := by
  obtain ⟨cur, hc, _, _, _, hx⟩ := h
  exact ⟨(blk_cell hc _).trans (hx i hi).1, (blk_cell hc _).trans (hx i hi).2⟩
theorem Row.free {W : World} {g cap : Nat} {l : List S26} (h : Row W g cap l) (i : Nat) : W.frozen? ⟨g, i, none⟩ = false := by
  obtain ⟨cur, hc, _⟩ := h
  exact blk_frozen hc i
theorem Row.move {W W' : World} {g cap : Nat} {l : List S26} (h : Row W g cap l) (hb : W'.heap[g]? = W.heap[g]?) : Row W' g cap l := by
  obtain ⟨cur, hc, r⟩ := h
  exact ⟨cur, hb.trans hc, r⟩
theorem Row.below {W W' : World} {g cap : Nat} {l : List S26} (h : Row W g cap l) (hb : Below W.heap.size W W') : Row W' g cap l := h.move (hb.block g h.lt)
theorem Row.take {W : World} {g cap : Nat} {l : List S26} (h : Row W g cap l) (m : Nat) : Row W g cap (l.take m) := by
  obtain ⟨cur, hc, hm, hs, hl, hx⟩ := h
  refine ⟨cur, hc, hm, hs, by rw [List.length_take]; omega, fun i hi => ?_⟩
  rw [List.length_take] at hi
  rw [List.getElem_take]
  exact hx i (by omega)
theorem Row.set {W : World} {g cap : Nat} {l : List S26} (h : Row W g cap l) (i : Nat) (hi : i < l.length) (a b : Int) :
    Row ((W.setCell ⟨g, i * 2, none⟩ (.int .i64 a)).setCell ⟨g, i * 2 + 1, none⟩ (.int .i64 b)) g cap (l.set i ⟨a, b⟩) := by
  obtain ⟨cur, hc, hm, hs, hl, hx⟩ := h
  refine ⟨_, blk_set (blk_set hc (i * 2) _) (i * 2 + 1) _, hm, by simpa using hs, by simpa using hl, fun j hj => ?_⟩
  rw [List.length_set] at hj
  have hjx := hx j hj
  rw [Array.getElem?_setIfInBounds, Array.getElem?_setIfInBounds, Array.getElem?_setIfInBounds, Array.getElem?_setIfInBounds]
  rw [List.getElem_set]
  by_cases e : i = j
  · subst e
    simp [hs]
    omega
  · have n1 : ¬ i * 2 = j * 2 := by omega
    have n2 : ¬ i * 2 + 1 = j * 2 := by omega
    have n3 : ¬ i * 2 = j * 2 + 1 := by omega
    have n4 : ¬ i * 2 + 1 = j * 2 + 1 := by omega
    simp only [n1, n2, n3, n4, e, if_false]
    exact hjx
theorem Row.set1 {W : World} {g cap : Nat} {l : List S26} (h : Row W g cap l) (i : Nat) (hi : i < l.length) (b : Int) :
    Row (W.setCell ⟨g, i * 2 + 1, none⟩ (.int .i64 b)) g cap (l.set i ⟨l[i].f0, b⟩) := by
  obtain ⟨cur, hc, hm, hs, hl, hx⟩ := h
  refine ⟨_, blk_set hc (i * 2 + 1) _, hm, by simpa using hs, by simpa using hl, fun j hj => ?_⟩
  rw [List.length_set] at hj
  have hjx := hx j hj
  rw [Array.getElem?_setIfInBounds, Array.getElem?_setIfInBounds]
  rw [List.getElem_set]
  by_cases e : i = j
  · subst e
    simp [hs]
    exact ⟨hjx.1, by omega⟩
  · have n2 : ¬ i * 2 + 1 = j * 2 := by omega
    have n4 : ¬ i * 2 + 1 = j * 2 + 1 := by omega
    simp only [n2, n4, e, if_false]
    exact hjx

/-! ### As the print's rows -/
theorem Row.of_R {W : World} {base : Nat} {ok : Nat → Prop} {v : Value} {l : List S26} (h : Kd.R k26 26 W base ok v l) (hp : 0 < l.length) : ∃ g cap, v = .slice (some ⟨g, 0, none⟩) l.length cap ∧ base ≤ g ∧ Row W g cap l := by
  obtain ⟨h0, inner, ho, hr⟩ := h
  obtain ⟨ho1, ho2⟩ := ho
  rcases ho2 with ⟨_, h2⟩ | ⟨g, cap, cur, rfl, hg, hh, hn, hm, hs, ht⟩
  · omega
  · refine ⟨g, cap, rfl, hg, cur, hh, hm, hs, hn, fun i hi => ?_⟩
    have hk := k26_openM (hr.2 i _ (List.getElem?_eq_getElem hi))
    have hlen : i * 2 + 2 ≤ inner.length := by
      rw [ho1]
      show i * 2 + 2 ≤ l.length * 2
      omega
    have key : ∀ j, j < 2 → cur[i * 2 + j]? = ((inner.drop (i * 2)).take 2)[j]? := fun j hj => by
      rw [List.getElem?_take, if_pos hj, List.getElem?_drop, ← ht, List.getElem?_take, if_pos (show i * 2 + j < l.length * k26.sz by show _ < l.length * 2; omega), Array.getElem?_toList]
    have hk' : (inner.drop (i * 2)).take 2 = [.int .i64 l[i].f0, .int .i64 l[i].f1] := hk
    have k0 := key 0 (by omega)
    have k1 := key 1 (by omega)
    rw [hk'] at k0 k1
    exact ⟨k0, k1⟩
theorem Row.R {W : World} {base : Nat} {ok : Nat → Prop} {g cap : Nat} {l : List S26} (h : Row W g cap l) (hb : base ≤ g) (hok : ok g) : Kd.R k26 26 W base ok (.slice (some ⟨g, 0, none⟩) l.length cap) l := by
  obtain ⟨cur, hc, hm, hs, hl, hx⟩ := h
  have hcl : cur.toList.length = cap * 2 := by simpa using hs
  refine ⟨fun k hk => ?_, cur.toList.take (l.length * 2), ⟨?_, .inr ⟨g, cap, cur, rfl, hb, hc, hl, hm, hs, rfl⟩⟩, ?_, fun j p hj => ?_⟩
  · have : g = k := by simpa [Value.ownBlock] using hk
    rw [← this]; exact hok
  · rw [List.length_take, hcl]
    show min (l.length * 2) (cap * 2) = l.length * 2
    omega
  · rw [List.length_take, hcl]
    show min (l.length * 2) (cap * 2) = l.length * 2
    omega
  · obtain ⟨hlt, he⟩ := List.getElem?_eq_some_iff.1 hj
    have hxj := hx j hlt
    rw [he] at hxj
    have e : ((cur.toList.take (l.length * 2)).drop (j * k26.sz)).take k26.sz = [.int .i64 p.f0, .int .i64 p.f1] := by
      show ((cur.toList.take (l.length * 2)).drop (j * 2)).take 2 = _
      apply List.ext_getElem?
      intro i
      rw [List.getElem?_take, List.getElem?_drop, List.getElem?_take, Array.getElem?_toList]
      match i with
      | 0 => rw [if_pos (by omega), if_pos (by omega)]; exact hxj.1
      | 1 => rw [if_pos (by omega), if_pos (by omega)]; exact hxj.2
      | i + 2 => rw [if_neg (by omega)]; rfl
    rw [e]
    exact k26_mkM _ _ _ _

/-! ### As the sort's rows -/
def encS (x : S26) : List Value := [.int .i64 x.f0, .int .i64 x.f1]
instance : Inhabited S26 := ⟨z26⟩
theorem flat_get (d : Array S26) (i : Nat) (hi : i < d.size) : (Sort.flatK encS 2 d)[i * 2]! = .int .i64 d[i].f0 ∧ (Sort.flatK encS 2 d)[i * 2 + 1]! = .int .i64 d[i].f1 := by
  rw [Sort.get_flatK _ _ _ _ (by omega), Sort.get_flatK _ _ _ _ (by omega)]
  have a : i * 2 / 2 = i := by omega
  have b : i * 2 % 2 = 0 := by omega
  have c : (i * 2 + 1) / 2 = i := by omega
  have e : (i * 2 + 1) % 2 = 1 := by omega
  rw [a, b, c, e, getElem!_pos d i hi]
  exact ⟨rfl, rfl⟩
theorem Row.holds {W : World} {g cap : Nat} {l : List S26} (h : Row W g cap l) : Sort.HoldsK encS 2 W g 0 l.toArray := by
  intro j hj
  rw [Sort.size_flatK] at hj
  have hj' : j < l.length * 2 := by simpa using hj
  have hf := flat_get l.toArray (j / 2) (by simp; omega)
  have hc := h.cell (j / 2) (by omega)
  rw [Nat.zero_add]
  refine ⟨?_, h.free j⟩
  rcases Nat.mod_two_eq_zero_or_one j with e | e
  · have e2 : j / 2 * 2 = j := by omega
    rw [e2] at hf hc
    rw [hf.1, hc.1]
    simp
  · have e2 : j / 2 * 2 + 1 = j := by omega
    rw [e2] at hf hc
    rw [hf.2, hc.2]
    simp
end Go.Proofs.Ytabmablgaifidaa.PGrain
