/- net.own by a contract: what stands between its statements. No program, no condition. -/
import Derived.Test.YtjpeaeklhcnpnaaC4
namespace Go.Proofs.Ytjpeaeklhcnpnaa.K
open Go.RowKit
set_option linter.unusedVariables false
set_option linter.unusedSimpArgs false
def NN (w : World) : Nat → Prop := fun k => w.heap.size + 2 ≤ k
def oBox (w : World) (x : Msg) (wc : World) (d m t k s a g p : Value) : Prop :=
  wc.heap[w.heap.size]? = some (.cells (mC x d m t k s a g p) 54 (0, 0)) ∧ wc.heap[w.heap.size + 1]? = some (.cells mZ 54 (0, 0)) ∧ Below w.heap.size w wc
def Got2 (x : Msg) (w : World) (F : Nat → Prop) (d m t k : Value) : Prop := mFact x w F d m ∧ mFilter x w F t k
def Got3 (x : Msg) (w : World) (F : Nat → Prop) (d m t k a : Value) : Prop := Got2 x w F d m t k ∧ mAggs x w F a
/-- A row that was made, of n elements of type t. -/
def rowIs (w : World) (F : Nat → Prop) (t : TypeId) (v : Value) (n : Nat) : Prop := n = 0 ∨ ∃ g c, v = .slice (some ⟨g, 0, none⟩) n c ∧ F g ∧ ∃ cur, w.heap[g]? = some (.cells cur t (0, 0))
def setsIs (w : World) (F : Nat → Prop) (v : Value) (xs : List (List Int)) : Prop := xs.length = 0 ∨ ∃ g c, v = .slice (some ⟨g, 0, none⟩) xs.length c ∧ F g ∧ (∃ cur, w.heap[g]? = some (.cells cur 81 (0, 0))) ∧ ∀ j (hj : j < xs.length), ∃ u, w.cell? ⟨g, j, none⟩ = some u ∧ rowIs w F 3 u xs[j].length
theorem rowIs.move {w w1 : World} {F : Nat → Prop} {t : TypeId} {v : Value} {n : Nat} (hm : ∀ k, F k → k < w.heap.size → w1.heap[k]? = w.heap[k]?) (h : rowIs w F t v n) : rowIs w1 F t v n :=
  h.imp (fun h => h) fun ⟨g, c, e, hF, cur, hg⟩ => ⟨g, c, e, hF, cur, (hm g hF (blk_lt hg)).trans hg⟩
theorem rowIs.mono {w : World} {F F' : Nat → Prop} {t : TypeId} {v : Value} {n : Nat} (hF : ∀ k, F k → F' k) (h : rowIs w F t v n) : rowIs w F' t v n :=
  h.imp (fun h => h) fun ⟨g, c, e, h1, h2⟩ => ⟨g, c, e, hF g h1, h2⟩
theorem rowIs.known {w : World} {F : Nat → Prop} {t : TypeId} {v : Value} {n : Nat} (h : rowIs w F t v n) : rowIs w (fun k => F k ∧ k < w.heap.size) t v n :=
  h.imp (fun h => h) fun ⟨g, c, e, h1, cur, hg⟩ => ⟨g, c, e, ⟨h1, blk_lt hg⟩, cur, hg⟩
theorem setsIs.move {w w1 : World} {F : Nat → Prop} {v : Value} {xs : List (List Int)} (hm : ∀ k, F k → k < w.heap.size → w1.heap[k]? = w.heap[k]?) (h : setsIs w F v xs) : setsIs w1 F v xs :=
  h.imp (fun h => h) fun ⟨g, c, e, hF, ⟨cur, hg⟩, hr⟩ => ⟨g, c, e, hF, ⟨cur, (hm g hF (blk_lt hg)).trans hg⟩, fun j hj => by
    obtain ⟨u, h1, h2⟩ := hr j hj
    exact ⟨u, (World.cell?_of_block (w := w) (hm g hF (blk_lt hg))).trans h1, h2.move hm⟩⟩
theorem setsIs.mono {w : World} {F F' : Nat → Prop} {v : Value} {xs : List (List Int)} (hF : ∀ k, F k → F' k) (h : setsIs w F v xs) : setsIs w F' v xs :=
  h.imp (fun h => h) fun ⟨g, c, e, h1, h2, hr⟩ => ⟨g, c, e, hF g h1, h2, fun j hj => by
    obtain ⟨u, h1, h2⟩ := hr j hj
    exact ⟨u, h1, h2.mono hF⟩⟩
theorem setsIs.known {w : World} {F : Nat → Prop} {v : Value} {xs : List (List Int)} (h : setsIs w F v xs) : setsIs w (fun k => F k ∧ k < w.heap.size) v xs :=
  h.imp (fun h => h) fun ⟨g, c, e, h1, ⟨cur, hg⟩, hr⟩ => ⟨g, c, e, ⟨h1, blk_lt hg⟩, ⟨cur, hg⟩, fun j hj => by
    obtain ⟨u, h1, h2⟩ := hr j hj
    exact ⟨u, h1, h2.known⟩⟩
theorem rowIs_of {α : Type} {d : Kd α} {t : TypeId} {w : World} {F : Nat → Prop} {base n c : Nat} {A : Option Addr} {xs : List α} (h : d.Own t w F base (.slice A n c) xs) : rowIs w F t (.slice A n c) xs.length := by
  rcases Kd.Row_of_Own h with ⟨h0, _⟩ | ⟨g, rfl, rfl, _, hF, hR⟩
  · exact .inl (by rw [h0]; rfl)
  · obtain ⟨⟨cur, hg, _⟩, _⟩ := hR
    exact .inr ⟨g, c, rfl, hF, cur, hg⟩
def Got4 (x : Msg) (w : World) (F : Nat → Prop) (d m t k a s : Value) : Prop := Got3 x w F d m t k a ∧ mSets x w F s ∧ setsIs w F s x.Query.Sets
def Got5 (x : Msg) (w : World) (F : Nat → Prop) (d m t k a s g : Value) : Prop := Got4 x w F d m t k a s ∧ mSegs x w F g ∧ rowIs w F 46 g x.Segs.length
section
variable {x : Msg} {w w1 : World} {F F' : Nat → Prop} {d m t k a s g p : Value}
theorem Got2.move (hm : ∀ k, F k → k < w.heap.size → w1.heap[k]? = w.heap[k]?) (h : Got2 x w F d m t k) : Got2 x w1 F d m t k := ⟨kFact.move hm h.1, kFilter.move hm h.2⟩
theorem Got3.move (hm : ∀ k, F k → k < w.heap.size → w1.heap[k]? = w.heap[k]?) (h : Got3 x w F d m t k a) : Got3 x w1 F d m t k a := ⟨h.1.move hm, (Kd.slice 16 kAgg).move hm h.2⟩
theorem Got4.move (hm : ∀ k, F k → k < w.heap.size → w1.heap[k]? = w.heap[k]?) (h : Got4 x w F d m t k a s) : Got4 x w1 F d m t k a s := ⟨h.1.move hm, (Kd.slice 24 (Kd.slice 8 (Kd.int .i64))).move hm h.2.1, h.2.2.move hm⟩
theorem Got5.move (hm : ∀ k, F k → k < w.heap.size → w1.heap[k]? = w.heap[k]?) (h : Got5 x w F d m t k a s g) : Got5 x w1 F d m t k a s g := ⟨h.1.move hm, (Kd.slice 40 kSeg).move hm h.2.1, h.2.2.move hm⟩
theorem Got2.mono (hF : ∀ k, F k → F' k) (h : Got2 x w F d m t k) : Got2 x w F' d m t k := ⟨kFact.mono hF h.1, kFilter.mono hF h.2⟩
theorem Got3.mono (hF : ∀ k, F k → F' k) (h : Got3 x w F d m t k a) : Got3 x w F' d m t k a := ⟨h.1.mono hF, (Kd.slice 16 kAgg).mono hF h.2⟩
theorem Got4.mono (hF : ∀ k, F k → F' k) (h : Got4 x w F d m t k a s) : Got4 x w F' d m t k a s := ⟨h.1.mono hF, (Kd.slice 24 (Kd.slice 8 (Kd.int .i64))).mono hF h.2.1, h.2.2.mono hF⟩
theorem Got5.mono (hF : ∀ k, F k → F' k) (h : Got5 x w F d m t k a s g) : Got5 x w F' d m t k a s g := ⟨h.1.mono hF, (Kd.slice 40 kSeg).mono hF h.2.1, h.2.2.mono hF⟩
theorem Got2.known (h : Got2 x w F d m t k) : Got2 x w (fun k => F k ∧ k < w.heap.size) d m t k := ⟨kFact.lt h.1, kFilter.lt h.2⟩
theorem Got3.known (h : Got3 x w F d m t k a) : Got3 x w (fun k => F k ∧ k < w.heap.size) d m t k a := ⟨h.1.known, (Kd.slice 16 kAgg).lt h.2⟩
theorem Got4.known (h : Got4 x w F d m t k a s) : Got4 x w (fun k => F k ∧ k < w.heap.size) d m t k a s := ⟨h.1.known, (Kd.slice 24 (Kd.slice 8 (Kd.int .i64))).lt h.2.1, h.2.2.known⟩
theorem Got5.known (h : Got5 x w F d m t k a s g) : Got5 x w (fun k => F k ∧ k < w.heap.size) d m t k a s g := ⟨h.1.known, (Kd.slice 40 kSeg).lt h.2.1, h.2.2.known⟩
end
def Cut1 (w : World) (x : Msg) (t k s a g p : Value) (wc : World) : Prop := ∃ d m, oBox w x wc d m t k s a g p ∧ mFact x wc (NN w) d m
def Cut2 (w : World) (x : Msg) (s a g p : Value) (wc : World) : Prop := ∃ d m t k, oBox w x wc d m t k s a g p ∧ Got2 x wc (NN w) d m t k
def Cut3 (w : World) (x : Msg) (g p : Value) (wc : World) : Prop := ∃ d m t k s a, oBox w x wc d m t k s a g p ∧ Got3 x wc (fun k => NN w k ∧ some k ≠ s.ownBlock) d m t k a ∧
  ∃ A c, s = .slice A x.Query.Sets.length c ∧ (Kd.slice 8 (Kd.int .i64)).Own 81 wc (fun k => NN w k ∨ k < w.heap.size) (w.heap.size + 2) s x.Query.Sets
def Cut4 (w : World) (x : Msg) (g p : Value) (wc : World) : Prop := ∃ d m t k s a, oBox w x wc d m t k s a g p ∧ Got4 x wc (NN w) d m t k a s
def Cut5 (w : World) (x : Msg) (wc : World) : Prop := ∃ d m t k s a g p, oBox w x wc d m t k s a g p ∧ Got5 x wc (fun k => NN w k ∧ some k ≠ p.ownBlock) d m t k a s g ∧
  ∃ A c, p = .slice A x.Groups.length c ∧ kGroup.Own 128 wc (fun k => NN w k ∨ k < w.heap.size) (w.heap.size + 2) p x.Groups
def Cut6 (w : World) (x : Msg) (wc : World) : Prop := ∃ d m t k s a g p, oBox w x wc d m t k s a g p ∧ Got5 x wc (NN w) d m t k a s g ∧ mGroups x wc (NN w) p

/-- A pair of cells of the message's box is stored. -/
theorem set_res {w W : World} {o : Obj} (h : W.heap[w.heap.size + 1]? = some o) (i : Nat) (v : Value) : (W.setCell ⟨w.heap.size, i, none⟩ v).heap[w.heap.size + 1]? = some o := by
  rw [set_other (by show w.heap.size + 1 ≠ w.heap.size; omega)]; exact h
theorem set_bel {w W : World} (h : Below w.heap.size w W) (i : Nat) (v : Value) : Below w.heap.size w (W.setCell ⟨w.heap.size, i, none⟩ v) := h.setCell (p := ⟨w.heap.size, i, none⟩) (Nat.le_refl _) v
theorem set_new {w W : World} (i : Nat) (v : Value) {k : Nat} (h : w.heap.size + 2 ≤ k) : (W.setCell ⟨w.heap.size, i, none⟩ v).heap[k]? = W.heap[k]? := set_other (by show k ≠ w.heap.size; omega)
theorem Own_got {α : Type} {d : Kd α} {e : TypeId} {w : World} {F : Nat → Prop} {base n c : Nat} {A : Option Addr} {xs : List α} (h : d.Own e w F base (.slice A n c) xs) : n = xs.length ∧ xs.length ≤ c ∧ d.C w F A xs.length xs := by
  obtain ⟨A', c', he, hl, hC⟩ := Kd.Own_C h
  injection he with e1 e2 e3
  subst e1 e2 e3
  exact ⟨rfl, hl, hC⟩
section
variable {w w3 w4 V3 V4 : World} {x : Msg} {d m t k s a g p : Value} {A2 A3 : Option Addr} {c2 c3 : Nat}
theorem cut1_end (h1 : w4.heap[w.heap.size]? = some (.cells (mC x d m t k s a g p) 54 (0, 0))) (h2 : w4.heap[w.heap.size + 1]? = some (.cells mZ 54 (0, 0))) (hB : Below w.heap.size w w4)
    (h3 : Kd.string.Own 9 w3 (New V3) V3.heap.size (.slice A2 x.Fact.Dims.length c2) x.Fact.Dims) (hV3 : w.heap.size + 2 ≤ V3.heap.size) (hb4 : Below V4.heap.size V4 w4) (hV34 : V4.heap = w3.heap)
    (h4 : (Kd.int .i64).Own 2 w4 (New V4) V4.heap.size (.slice A3 x.Fact.Meas.length c3) x.Fact.Meas) (hV4 : w.heap.size + 2 ≤ V4.heap.size) (hq : (Lit.int .i64 x.Fact.Time).wf = true ∧ x.Fact.Dims.length * 16 ≤ 140737488355328 ∧ x.Fact.Meas.length * 8 ≤ 140737488355328) :
    Cut1 w x t k s a g p ((w4.setCell ⟨w.heap.size, 10, none⟩ (.slice A2 x.Fact.Dims.length c2)).setCell ⟨w.heap.size, 11, none⟩ (.slice A3 x.Fact.Meas.length c3)) := by
  have h3' : Kd.string.Own 9 w4 (New V3) V3.heap.size (.slice A2 x.Fact.Dims.length c2) x.Fact.Dims := Kd.Own_move (fun k _ hk => by rw [← hV34] at hk ⊢; exact hb4.block k hk) h3
  obtain ⟨_, l2, C2⟩ := Own_got h3'
  obtain ⟨_, l3, C3⟩ := Own_got h4
  refine ⟨_, _, ⟨blk_set (blk_set h1 10 _) 11 _, set_res (set_res h2 _ _) _ _, set_bel (set_bel hB _ _) _ _⟩, ?_⟩
  have hK : mFact x w4 (NN w) (.slice A2 x.Fact.Dims.length c2) (.slice A3 x.Fact.Meas.length c3) :=
    kFact_mk w4 (NN w) x.Fact hq.1 ⟨l2, hq.2.1, Kd.C_mono (fun k hk => Nat.le_trans hV3 hk) C2⟩ ⟨l3, hq.2.2, Kd.C_mono (fun k hk => Nat.le_trans hV4 hk) C3⟩
  exact kFact.move (fun k hk _ => (set_new _ _ hk).trans (set_new _ _ hk)) hK
theorem cut3_end {F : Nat → Prop} (h1 : w4.heap[w.heap.size]? = some (.cells (mC x d m t k s a g p) 54 (0, 0))) (h2 : w4.heap[w.heap.size + 1]? = some (.cells mZ 54 (0, 0))) (hB : Below w.heap.size w w4)
    (h3 : kAgg.Own 119 w3 (New V3) V3.heap.size (.slice A2 x.Query.Aggs.length c2) x.Query.Aggs) (hV3 : w.heap.size + 2 ≤ V3.heap.size) (hb4 : Below V4.heap.size V4 w4) (hV34 : V4.heap = w3.heap)
    (h4 : (Kd.slice 8 (Kd.int .i64)).Own 81 w4 (NewOr V4 (fun k => k < w.heap.size)) V4.heap.size (.slice A3 x.Query.Sets.length c3) x.Query.Sets) (hV4 : w.heap.size + 2 ≤ V4.heap.size) (hq : x.Query.Aggs.length * 16 ≤ 140737488355328)
    (hG : Got2 x w4 (fun k => NN w k ∧ k < V3.heap.size) d m t k) (hV : V3.heap.size ≤ V4.heap.size) :
    Cut3 w x g p ((w4.setCell ⟨w.heap.size, 22, none⟩ (.slice A2 x.Query.Aggs.length c2)).setCell ⟨w.heap.size, 21, none⟩ (.slice A3 x.Query.Sets.length c3)) := by
  have h3k := Kd.Own_lt h3
  have h3' : kAgg.Own 119 w4 (fun k => New V3 k ∧ k < w3.heap.size) V3.heap.size (.slice A2 x.Query.Aggs.length c2) x.Query.Aggs := Kd.Own_move (fun k _ hk => by rw [← hV34] at hk ⊢; exact hb4.block k hk) h3k
  obtain ⟨_, l2, C2⟩ := Own_got h3'
  have hne : ∀ k, k < V4.heap.size → some k ≠ (Value.slice A3 x.Query.Sets.length c3).ownBlock := by
    intro k hk he
    have hO : ∀ k, (Value.slice A3 x.Query.Sets.length c3).ownBlock = some k → V4.heap.size ≤ k := by
      obtain ⟨_, inner, ho, _⟩ := h4
      exact fun k hk => (Kd.own_base ho k hk).1
    have := hO k he.symm
    omega
  refine ⟨_, _, _, _, _, _, ⟨blk_set (blk_set h1 22 _) 21 _, set_res (set_res h2 _ _) _ _, set_bel (set_bel hB _ _) _ _⟩, ?_, A3, c3, rfl, ?_⟩
  · refine Got3.move (w := w4) (fun k hk _ => (set_new _ _ hk.1).trans (set_new _ _ hk.1)) ⟨hG.mono (fun k hk => ⟨hk.1, hne k (by omega)⟩), ⟨A2, c2, rfl, l2, hq, Kd.C_mono (fun k hk => ?_) C2⟩⟩
    exact ⟨Nat.le_trans hV3 hk.1, hne k (by rw [hV34]; exact hk.2)⟩
  · refine Own_set (Own_set (Own_base hV4 (Kd.Own_mono h4 (fun k hk => ?_))) _ ?_) _ ?_
    · rcases hk with hk | hk
      · exact .inl (Nat.le_trans hV4 hk)
      · exact .inr hk
    · intro k hk
      show k ≠ w.heap.size
      simp only [NN] at hk
      omega
    · intro k hk
      show k ≠ w.heap.size
      simp only [NN] at hk
      omega
theorem cut5_end (h1 : w4.heap[w.heap.size]? = some (.cells (mC x d m t k s a g p) 54 (0, 0))) (h2 : w4.heap[w.heap.size + 1]? = some (.cells mZ 54 (0, 0))) (hB : Below w.heap.size w w4)
    (h3 : kSeg.Own 46 w3 (New V3) V3.heap.size (.slice A2 x.Segs.length c2) x.Segs) (hV3 : w.heap.size + 2 ≤ V3.heap.size) (hb4 : Below V4.heap.size V4 w4) (hV34 : V4.heap = w3.heap)
    (h4 : kGroup.Own 128 w4 (NewOr V4 (fun k => k < w.heap.size)) V4.heap.size (.slice A3 x.Groups.length c3) x.Groups) (hV4 : w.heap.size + 2 ≤ V4.heap.size) (hq : x.Segs.length * 40 ≤ 140737488355328)
    (hG : Got4 x w4 (fun k => NN w k ∧ k < V3.heap.size) d m t k a s) (hV : V3.heap.size ≤ V4.heap.size) :
    Cut5 w x ((w4.setCell ⟨w.heap.size, 39, none⟩ (.slice A2 x.Segs.length c2)).setCell ⟨w.heap.size, 40, none⟩ (.slice A3 x.Groups.length c3)) := by
  have h3k := Kd.Own_lt h3
  have h3' : kSeg.Own 46 w4 (fun k => New V3 k ∧ k < w3.heap.size) V3.heap.size (.slice A2 x.Segs.length c2) x.Segs := Kd.Own_move (fun k _ hk => by rw [← hV34] at hk ⊢; exact hb4.block k hk) h3k
  obtain ⟨_, l2, C2⟩ := Own_got h3'
  have hne : ∀ k, k < V4.heap.size → some k ≠ (Value.slice A3 x.Groups.length c3).ownBlock := by
    intro k hk he
    have hO : ∀ k, (Value.slice A3 x.Groups.length c3).ownBlock = some k → V4.heap.size ≤ k := by
      obtain ⟨_, inner, ho, _⟩ := h4
      exact fun k hk => (Kd.own_base ho k hk).1
    have := hO k he.symm
    omega
  refine ⟨_, _, _, _, _, _, _, _, ⟨blk_set (blk_set h1 39 _) 40 _, set_res (set_res h2 _ _) _ _, set_bel (set_bel hB _ _) _ _⟩, ?_, A3, c3, rfl, ?_⟩
  · refine Got5.move (w := w4) (fun k hk _ => (set_new _ _ hk.1).trans (set_new _ _ hk.1)) ⟨hG.mono (fun k hk => ⟨hk.1, hne k (by omega)⟩), ⟨A2, c2, rfl, l2, hq, Kd.C_mono (fun k hk => ?_) C2⟩, (rowIs_of h3').mono (fun k hk => ?_)⟩
    all_goals exact ⟨Nat.le_trans hV3 hk.1, hne k (by rw [hV34]; exact hk.2)⟩
  · refine Own_set (Own_set (Own_base hV4 (Kd.Own_mono h4 (fun k hk => ?_))) _ ?_) _ ?_
    · rcases hk with hk | hk
      · exact .inl (Nat.le_trans hV4 hk)
      · exact .inr hk
    · intro k hk
      show k ≠ w.heap.size
      simp only [NN] at hk
      omega
    · intro k hk
      show k ≠ w.heap.size
      simp only [NN] at hk
      omega
end
end Go.Proofs.Ytjpeaeklhcnpnaa.K
