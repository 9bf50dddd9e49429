/- Rows that are written in place, element by element. No program, no condition. -/
import Derived.Test.YtjpeaeklhcnpnaaC1
import Derived.Deep.MidRow
namespace Go.Proofs.Ytjpeaeklhcnpnaa.K
open Go.RowKit
set_option linter.unusedVariables false
set_option linter.unusedSimpArgs false

theorem set_other {w : World} {a : Addr} {v : Value} {k : Nat} (h : k ≠ a.block) : (w.setCell a v).heap[k]? = w.heap[k]? := by
  simp [World.setCell, Array.getElem?_modify, h, Ne.symm h]
theorem setCells_other {b : Nat} : ∀ (vs : List Value) (o : Nat) (w : World) {k : Nat}, k ≠ b → (w.setCells b o vs).heap[k]? = w.heap[k]?
  | [], _, _, _, _ => rfl
  | v :: r, o, w, k, h => by rw [World.setCells, setCells_other r (o + 1) _ h, set_other h]
theorem setCells_block {b : Nat} {e : TypeId} : ∀ (vs : List Value) (o : Nat) (w : World) {cur : Array Value}, w.heap[b]? = some (.cells cur e (0, 0)) → ∃ cur' : Array Value, (w.setCells b o vs).heap[b]? = some (.cells cur' e (0, 0)) ∧ cur'.size = cur.size
  | [], _, _, cur, h => ⟨cur, h, rfl⟩
  | v :: r, o, w, cur, h => by
    obtain ⟨cur', h1, h2⟩ := setCells_block (b := b) (e := e) r (o + 1) (w.setCell ⟨b, o, none⟩ v) (blk_set h o v)
    exact ⟨cur', h1, by rw [h2]; simp⟩
theorem setCells_size (b : Nat) : ∀ (vs : List Value) (o : Nat) (w : World), (w.setCells b o vs).heap.size = w.heap.size
  | [], _, _ => rfl
  | v :: r, o, w => by rw [World.setCells, setCells_size b r]; simp [World.setCell]
theorem setCell_size (w : World) (a : Addr) (v : Value) : (w.setCell a v).heap.size = w.heap.size := by simp [World.setCell]
theorem below_setCells {B : Nat} {w : World} {b : Nat} (hb : B ≤ b) : ∀ (vs : List Value) (o : Nat) (W : World), Below B w W → Below B w (W.setCells b o vs)
  | [], _, _, h => h
  | v :: r, o, W, h => below_setCells hb r (o + 1) _ (h.setCell (p := ⟨b, o, none⟩) hb v)

variable {α : Type}
/-- Block g is a row of cap places for elements of type e; the first ones say xs; what the j-th reaches lies in F j. -/
def Kd.Row (d : Kd α) (e : TypeId) (w : World) (g cap : Nat) (xs : List α) (F : Nat → Nat → Prop) : Prop :=
  (∃ cur, w.heap[g]? = some (.cells cur e (0, 0)) ∧ cur.size = cap * d.sz) ∧ xs.length ≤ cap ∧ cap ≤ maxLen ∧ ∀ j p, xs[j]? = some p → ∃ cs, w.rangeAt g (j * d.sz) cs ∧ d.K w (F j) p cs
namespace Kd
variable {d : Kd α} {e : TypeId} {w : World} {g cap : Nat} {xs : List α} {F : Nat → Nat → Prop}
theorem Row.lt (h : d.Row e w g cap xs F) : g < w.heap.size := by
  obtain ⟨⟨cur, h1, _⟩, _⟩ := h
  exact blk_lt h1
theorem Row.mono {F' : Nat → Nat → Prop} (h : d.Row e w g cap xs F) (hF : ∀ j k, j < xs.length → F j k → F' j k) : d.Row e w g cap xs F' := by
  obtain ⟨h1, h2, h3, h4⟩ := h
  refine ⟨h1, h2, h3, fun j p hj => ?_⟩
  obtain ⟨cs, hr, hk⟩ := h4 j p hj
  exact ⟨cs, hr, d.mono (fun k => hF j k (List.getElem?_eq_some_iff.1 hj).1) hk⟩
theorem Row.known (h : d.Row e w g cap xs F) : d.Row e w g cap xs (fun j k => F j k ∧ k < w.heap.size) := by
  obtain ⟨h1, h2, h3, h4⟩ := h
  refine ⟨h1, h2, h3, fun j p hj => ?_⟩
  obtain ⟨cs, hr, hk⟩ := h4 j p hj
  exact ⟨cs, hr, d.lt hk⟩
theorem range_move {w1 : World} {b o : Nat} {cs : List Value} (h : w.rangeAt b o cs) (hb : w1.heap[b]? = w.heap[b]?) : w1.rangeAt b o cs := fun j v hv => by
  rw [World.cell?_of_block (w := w) hb]; exact h j v hv
theorem Row.move {w1 : World} (h : d.Row e w g cap xs F) (hg : w1.heap[g]? = w.heap[g]?) (hm : ∀ j k, j < xs.length → F j k → k < w.heap.size → w1.heap[k]? = w.heap[k]?) : d.Row e w1 g cap xs F := by
  obtain ⟨⟨cur, h1, h1'⟩, h2, h3, h4⟩ := h
  refine ⟨⟨cur, hg.trans h1, h1'⟩, h2, h3, fun j p hj => ?_⟩
  obtain ⟨cs, hr, hk⟩ := h4 j p hj
  exact ⟨cs, range_move hr hg, d.move (fun k => hm j k (List.getElem?_eq_some_iff.1 hj).1) hk⟩
theorem Row.below {w1 : World} (h : d.Row e w g cap xs F) (hb : Below w.heap.size w w1) : d.Row e w1 g cap xs F := h.move (hb.block g h.lt) (fun j k _ _ hk => hb.block k hk)
theorem Row.setFar (h : d.Row e w g cap xs F) {a : Addr} (v : Value) (hg : g ≠ a.block) (hF : ∀ j k, j < xs.length → F j k → k ≠ a.block) : d.Row e (w.setCell a v) g cap xs F :=
  h.move (set_other hg) (fun j k hj hk _ => set_other (hF j k hj hk))
theorem Row.setsFar (h : d.Row e w g cap xs F) {b : Nat} (vs : List Value) (o : Nat) (hg : g ≠ b) (hF : ∀ j k, j < xs.length → F j k → k ≠ b) : d.Row e (w.setCells b o vs) g cap xs F :=
  h.move (setCells_other _ _ _ hg) (fun j k hj hk _ => setCells_other _ _ _ (hF j k hj hk))
theorem Row.cell (h : d.Row e w g cap xs F) {i : Nat} (hi : i < cap) {f : Nat} (hf : f < d.sz) : (w.cell? ⟨g, i * d.sz + f, none⟩).isSome = true ∧ w.frozen? ⟨g, i * d.sz + f, none⟩ = false := by
  obtain ⟨⟨cur, h1, h1'⟩, h2, h3, h4⟩ := h
  have hle : i * d.sz + d.sz ≤ cap * d.sz := by rw [← Nat.succ_mul]; exact Nat.mul_le_mul_right _ hi
  exact ⟨by rw [blk_cell h1, Array.getElem?_eq_getElem (by omega)]; rfl, blk_frozen h1 _⟩
theorem Row.there (h : d.Row e w g cap xs F) {i : Nat} (hi : i < cap) : w.there g (i * d.sz) d.sz := fun j hj => h.cell hi hj
theorem Row.get (h : d.Row e w g cap xs F) {i : Nat} (hi : i < xs.length) : ∃ cs, w.rangeAt g (i * d.sz) cs ∧ d.K w (F i) xs[i] cs := h.2.2.2 i _ (List.getElem?_eq_getElem hi)
theorem sep {i j s : Nat} (h : i ≠ j) : i * s + s ≤ j * s ∨ j * s + s ≤ i * s := by
  rcases Nat.lt_or_ge i j with h1 | h1
  · left; rw [← Nat.succ_mul]; exact Nat.mul_le_mul_right _ h1
  · right; rw [← Nat.succ_mul]; exact Nat.mul_le_mul_right _ (by omega)
/-- A whole element is stored. -/
theorem Row.put (h : d.Row e w g cap xs F) {i : Nat} (hi : i < xs.length) {p : α} {cs : List Value} {Fp : Nat → Prop} (hp : d.K w Fp p cs) (hne : ∀ k, Fp k → k ≠ g) (hF : ∀ j k, j < xs.length → F j k → k ≠ g) :
    d.Row e (w.setCells g (i * d.sz) cs) g cap (xs.set i p) (fun j k => if j = i then Fp k else F j k) := by
  have hth := h.there (i := i) (by have := h.2.1; omega)
  obtain ⟨⟨cur, h1, h1'⟩, h2, h3, h4⟩ := h
  obtain ⟨cur', g1, g2⟩ := setCells_block cs (i * d.sz) w h1
  refine ⟨⟨cur', g1, by rw [g2, h1']⟩, by simpa using h2, h3, fun j q hj => ?_⟩
  have hcl := d.len hp
  rw [List.getElem?_set] at hj
  by_cases hij : i = j
  · subst hij
    rw [if_pos rfl, if_pos hi] at hj
    injection hj with hj
    subst hj
    refine ⟨cs, World.rangeAt_setCells_same _ _ _ _ (by rw [hcl]; exact hth), ?_⟩
    simp only [if_true]
    exact d.move (fun k hk _ => setCells_other _ _ _ (hne k hk)) hp
  · rw [if_neg hij] at hj
    obtain ⟨c, hr, hk⟩ := h4 j q hj
    refine ⟨c, World.rangeAt_setCells_apart hr _ _ _ (.inr ?_), ?_⟩
    · rw [d.len hk, hcl]
      have := sep (s := d.sz) hij
      omega
    · simp only [if_neg (Ne.symm hij)]
      exact d.move (fun k hk _ => setCells_other _ _ _ (hF j k (List.getElem?_eq_some_iff.1 hj).1 hk)) hk
/-- One cell of an element is stored. -/
theorem Row.putCell (h : d.Row e w g cap xs F) {i f : Nat} (hi : i < xs.length) (hf : f < d.sz) {p : α} {u : Value} {cs : List Value} {Fp : Nat → Prop} (hc : w.rangeAt g (i * d.sz) cs) (hl : cs.length = d.sz) (hp : d.K w Fp p (cs.set f u)) (hne : ∀ k, Fp k → k ≠ g) (hF : ∀ j k, j < xs.length → F j k → k ≠ g) :
    d.Row e (w.setCell ⟨g, i * d.sz + f, none⟩ u) g cap (xs.set i p) (fun j k => if j = i then Fp k else F j k) := by
  have hth := h.cell (i := i) (by have := h.2.1; omega) hf
  obtain ⟨u0, hu0⟩ := Option.isSome_iff_exists.1 hth.1
  obtain ⟨⟨cur, h1, h1'⟩, h2, h3, h4⟩ := h
  have hset : ∀ q : Addr, q ≠ ⟨g, i * d.sz + f, none⟩ → (w.setCell ⟨g, i * d.sz + f, none⟩ u).cell? q = w.cell? q := fun q hq => World.cell?_setCell_other _ _ _ _ (Ne.symm hq)
  refine ⟨⟨_, blk_set h1 _ _, by simpa using h1'⟩, by simpa using h2, h3, fun j q hj => ?_⟩
  rw [List.getElem?_set] at hj
  by_cases hij : i = j
  · subst hij
    rw [if_pos rfl, if_pos hi] at hj
    injection hj with hj
    subst hj
    refine ⟨cs.set f u, fun j v hv => ?_, ?_⟩
    · rw [List.getElem?_set] at hv
      by_cases hjf : f = j
      · subst hjf
        rw [if_pos rfl, if_pos (by omega)] at hv
        injection hv with hv
        subst hv
        exact World.cell?_setCell_same _ _ _ hu0
      · rw [if_neg hjf] at hv
        rw [hset _ (by intro he; injection he with _ he; omega)]
        exact hc j v hv
    · simp only [if_true]
      exact d.move (fun k hk _ => set_other (hne k hk)) hp
  · rw [if_neg hij] at hj
    obtain ⟨c, hr, hk⟩ := h4 j q hj
    refine ⟨c, fun m v hv => ?_, ?_⟩
    · rw [hset _ (by
        intro he
        injection he with _ he
        have hm : m < c.length := (List.getElem?_eq_some_iff.1 hv).1
        rw [d.len hk] at hm
        have := sep (s := d.sz) hij
        omega)]
      exact hr m v hv
    · simp only [if_neg (Ne.symm hij)]
      exact d.move (fun k hk _ => set_other (hF j k (List.getElem?_eq_some_iff.1 hj).1 hk)) hk
/-- Out of what a call owns. -/
theorem Row_of_Own {F0 : Nat → Prop} {base : Nat} {A : Option Addr} {n c : Nat} (h : d.Own e w F0 base (.slice A n c) xs) : xs = [] ∧ A = none ∧ n = 0 ∧ c = 0 ∨ ∃ g, A = some ⟨g, 0, none⟩ ∧ n = xs.length ∧ base ≤ g ∧ F0 g ∧ d.Row e w g c xs (fun _ k => F0 k ∧ k ≠ g) := by
  obtain ⟨h0, inner, ho, hr⟩ := h
  rcases ho.2 with ⟨h1, h2⟩ | ⟨g, cap, cur, h1, hb, hg, hnc, hcm, hcs, htake⟩
  · injection h1 with h1 h3 h4
    exact .inl ⟨List.eq_nil_of_length_eq_zero h2, h1, h3, h4⟩
  · injection h1 with h1 h3 h4
    subst h1 h3 h4
    refine .inr ⟨g, rfl, rfl, hb, h0 g rfl, ⟨cur, hg, hcs⟩, hnc, hcm, fun j p hj => ⟨_, fun i u hu => ?_, d.mono (fun k hk => ⟨hk.1, fun he => hk.2 (by rw [he]; rfl)⟩) (hr j p hj)⟩⟩
    rw [List.getElem?_take] at hu
    split at hu
    · rw [List.getElem?_drop] at hu
      have := World.ownsRow.cells (g := g) ho rfl _ u hu
      rw [Addr.add_mid, Nat.zero_add] at this
      exact this
    · cases hu
/-- And back. -/
theorem Row.own {base : Nat} (h : d.Row e w g cap xs F) (hb : base ≤ g) {F0 : Nat → Prop} (hg : F0 g) (hF : ∀ j k, j < xs.length → F j k → F0 k ∧ k ≠ g) : d.Own e w F0 base (.slice (some ⟨g, 0, none⟩) xs.length cap) xs := by
  obtain ⟨⟨cur, h1, h1'⟩, h2, h3, h4⟩ := h
  have hle : xs.length * d.sz ≤ cur.toList.length := by
    have hx : cur.toList.length = cur.size := Array.length_toList
    rw [hx, h1']
    exact Nat.mul_le_mul_right _ h2
  refine ⟨fun k hk => ?_, cur.toList.take (xs.length * d.sz), ⟨by rw [List.length_take]; omega, .inr ⟨g, cap, cur, rfl, hb, h1, h2, h3, h1', rfl⟩⟩, fun j p hj => ?_⟩
  · have : g = k := by simpa [Value.ownBlock] using hk
    exact this ▸ hg
  · obtain ⟨cs, hr, hk⟩ := h4 j p hj
    have hj' := (List.getElem?_eq_some_iff.1 hj).1
    have hle2 : j * d.sz + d.sz ≤ xs.length * d.sz := by rw [← Nat.succ_mul]; exact Nat.mul_le_mul_right _ hj'
    have he : (List.drop (j * d.sz) (cur.toList.take (xs.length * d.sz))).take d.sz = cs := by
      have hcl := d.len hk
      refine List.ext_getElem? fun m => ?_
      rw [List.getElem?_take]
      split
      · rename_i hm
        rw [List.getElem?_drop, List.getElem?_take, if_pos (by omega), Array.getElem?_toList]
        have := hr m _ (List.getElem?_eq_getElem (by omega))
        rw [blk_cell h1] at this
        rw [this, List.getElem?_eq_getElem (by omega)]
      · rw [List.getElem?_eq_none (by omega)]
    rw [he]
    refine d.mono (fun k hk => ?_) hk
    have := hF j k hj' hk
    refine ⟨this.1, fun h => ?_⟩
    simp only [Value.ownBlock, Option.some.injEq] at h
    exact this.2 h
theorem Row.C (h : d.Row e w g cap xs F) {F0 : Nat → Prop} (hg : F0 g) (hF : ∀ j k, j < xs.length → F j k → F0 k) : d.C w F0 (some ⟨g, 0, none⟩) xs.length xs := by
  have hl := h.lt
  obtain ⟨h1, h2, h3, h4⟩ := h
  refine ⟨rfl, by simp only [maxLen] at h3; omega, fun _ => ⟨_, rfl, hg, hl, fun j p hj => ?_⟩⟩
  obtain ⟨cs, hr, hk⟩ := h4 j p hj
  refine ⟨cs, d.mono (fun k => hF j k (List.getElem?_eq_some_iff.1 hj).1) hk, fun i u hu => ?_⟩
  rw [Addr.add_mid, Nat.zero_add]
  exact hr i u hu
end Kd
end Go.Proofs.Ytjpeaeklhcnpnaa.K
