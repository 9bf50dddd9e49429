/- net.own by a contract: what its loops keep. No program, no condition. -/
import Derived.Test.YtjpeaeklhcnpnaaC5
namespace Go.Proofs.Ytjpeaeklhcnpnaa.K
open Go.RowKit
set_option linter.unusedVariables false
set_option linter.unusedSimpArgs false
abbrev kInts : Kd (List Int) := Kd.slice 8 (Kd.int .i64)
theorem cut2_end {w w5 V : World} {x : Msg} {d m t k s a g p t' k' : Value} (h1 : w5.heap[w.heap.size]? = some (.cells (mC x d m t k s a g p) 54 (0, 0))) (h2 : w5.heap[w.heap.size + 1]? = some (.cells mZ 54 (0, 0))) (hB : Below w.heap.size w w5) (hF : mFact x w5 (NN w) d m)
    (hK : kFilter.K w5 (New V) x.Query.Filter [.int .i64 x.Query.Filter.Kind, .int .i64 x.Query.Filter.Dim, t', .int .i64 x.Query.Filter.Lo, .int .i64 x.Query.Filter.Hi, k']) (hV : w.heap.size + 2 ≤ V.heap.size) :
    Cut2 w x s a g p ((((((w5.setCell ⟨w.heap.size, 14, none⟩ (.int .i64 x.Query.Filter.Kind)).setCell ⟨w.heap.size, 15, none⟩ (.int .i64 x.Query.Filter.Dim)).setCell ⟨w.heap.size, 16, none⟩ t').setCell ⟨w.heap.size, 17, none⟩ (.int .i64 x.Query.Filter.Lo)).setCell ⟨w.heap.size, 18, none⟩ (.int .i64 x.Query.Filter.Hi)).setCell ⟨w.heap.size, 19, none⟩ k') := by
  refine ⟨d, m, t', k', ⟨blk_set (blk_set (blk_set (blk_set (blk_set (blk_set h1 14 _) 15 _) 16 _) 17 _) 18 _) 19 _, set_res (set_res (set_res (set_res (set_res (set_res h2 _ _) _ _) _ _) _ _) _ _) _ _, set_bel (set_bel (set_bel (set_bel (set_bel (set_bel hB _ _) _ _) _ _) _ _) _ _) _ _⟩, ?_⟩
  have hG : Got2 x w5 (NN w) d m t' k' := ⟨hF, kFilter.mono (fun k hk => Nat.le_trans hV hk) hK⟩
  exact hG.move (fun k hk _ => (set_new _ _ hk).trans ((set_new _ _ hk).trans ((set_new _ _ hk).trans ((set_new _ _ hk).trans ((set_new _ _ hk).trans (set_new _ _ hk))))))
theorem oBox_later {w wr w5 : World} {x : Msg} {d m t k s a g p : Value} (h : oBox w x wr d m t k s a g p) (hb : Below wr.heap.size wr w5) : oBox w x w5 d m t k s a g p :=
  ⟨blk_below h.1 hb, blk_below h.2.1 hb, h.2.2.trans (hb.mono h.2.2.size)⟩
theorem oBox_sets {w wr : World} {x : Msg} {d m t k s a g p : Value} (h : oBox w x wr d m t k s a g p) {b : Nat} (hb : w.heap.size + 2 ≤ b) (o : Nat) (vs : List Value) : oBox w x (wr.setCells b o vs) d m t k s a g p :=
  ⟨(setCells_other _ _ _ (by omega)).trans h.1, (setCells_other _ _ _ (by omega)).trans h.2.1, below_setCells (by omega) _ _ _ h.2.2⟩

/-! ### The grouping sets -/
def SLoop (w : World) (x : Msg) (g p d m t k a : Value) (gs cs i : Nat) (wr : World) : Prop :=
  oBox w x wr d m t k (.slice (some ⟨gs, 0, none⟩) x.Query.Sets.length cs) a g p ∧ Got3 x wr (fun k => NN w k ∧ k ≠ gs) d m t k a ∧
    kInts.Row 81 wr gs cs x.Query.Sets (fun j k => k ≠ gs ∧ k ≠ w.heap.size ∧ k ≠ w.heap.size + 1 ∧ (j < i → NN w k)) ∧ NN w gs ∧
    ∀ j (hj : j < x.Query.Sets.length), j < i → ∃ u, wr.cell? ⟨gs, j, none⟩ = some u ∧ rowIs wr (fun k => NN w k ∧ k ≠ gs) 3 u x.Query.Sets[j].length
theorem sloop_start {w wc : World} {x : Msg} {g p d m t k a : Value} {gs cs : Nat} (hB : oBox w x wc d m t k (.slice (some ⟨gs, 0, none⟩) x.Query.Sets.length cs) a g p) (hG : Got3 x wc (fun k => NN w k ∧ some k ≠ (Value.slice (some ⟨gs, 0, none⟩) x.Query.Sets.length cs).ownBlock) d m t k a)
    (hR : kInts.Row 81 wc gs cs x.Query.Sets (fun _ k => (NN w k ∨ k < w.heap.size) ∧ k ≠ gs)) (hg : NN w gs) : SLoop w x g p d m t k a gs cs 0 wc :=
  ⟨hB, hG.mono (fun k hk => ⟨hk.1, fun he => hk.2 (by rw [he]; rfl)⟩), hR.mono (fun j k _ hk => ⟨hk.2, by simp only [NN] at hk; omega, by simp only [NN] at hk; omega, fun h => by omega⟩), hg, fun j hj h => absurd h (Nat.not_lt_zero j)⟩
theorem sloop_step {w wr w5 : World} {x : Msg} {g p d m t k a : Value} {gs cs i : Nat} {y : List Int} {v : Value} (h : SLoop w x g p d m t k a gs cs i wr) (hi : i < x.Query.Sets.length) (hb : Below wr.heap.size wr w5) (hy : x.Query.Sets[i] = y) (hK : kInts.K w5 (New wr) y [v]) (hT : rowIs w5 (New wr) 3 v y.length) :
    SLoop w x g p d m t k a gs cs (i + 1) (w5.setCell ⟨gs, i, none⟩ v) := by
  obtain ⟨h1, h2, h3, h4, h6⟩ := h
  have l1 := blk_lt h1.1
  have l2 := blk_lt h1.2.1
  have lg := h3.lt
  simp only [NN] at h4
  have hput := (h3.known.below hb).put hi (p := y) hK (fun k hk => by simp only [New] at hk; omega) (fun j k _ hk => hk.1.1)
  rw [← hy, List.set_getElem_self] at hput
  have hw : w5.setCells gs (i * kInts.sz) [v] = w5.setCell ⟨gs, i, none⟩ v := by
    have : i * kInts.sz = i := Nat.mul_one i
    rw [this]
    rfl
  rw [hw] at hput
  rw [← hw]
  refine ⟨oBox_sets (oBox_later h1 hb) h4 _ _, (h2.known.move (fun k hk hl => hb.block k hl)).mono (fun k hk => hk.1) |>.move (fun k hk _ => setCells_other _ _ _ hk.2), ?_, h4, fun j hj hji => ?_⟩
  rotate_left
  · by_cases e : j = i
    · subst e
      have hsome := (h3.cell (i := j) (by have := h3.2.1; omega) (show 0 < kInts.sz by decide)).1
      have hz : j * kInts.sz + 0 = j := Nat.mul_one j
      rw [hz] at hsome
      obtain ⟨u0, hu0⟩ := Option.isSome_iff_exists.1 hsome
      refine ⟨v, by rw [hw]; exact World.cell?_setCell_same _ _ _ ((World.cell?_of_block (w := wr) (hb.block gs lg)).trans hu0), ?_⟩
      rw [hy]
      exact rowIs.move (w := w5) (fun k hk _ => setCells_other _ _ _ hk.2) (hT.mono (fun k hk => by simp only [New] at hk; exact ⟨by simp only [NN]; omega, by omega⟩))
    · obtain ⟨u, hu1, hu2⟩ := h6 j hj (by omega)
      refine ⟨u, ?_, rowIs.move (w := w5) (fun k hk _ => setCells_other _ _ _ hk.2) ((rowIs.known hu2).move (fun k hk hl => hb.block k hl) |>.mono (fun k hk => hk.1))⟩
      rw [hw, World.cell?_setCell_other _ _ _ _ (by intro e2; injection e2 with _ e3; exact e e3.symm)]
      exact (World.cell?_of_block (w := wr) (hb.block gs lg)).trans hu1
  rw [hw]
  refine hput.mono (fun j k hj hk => ?_)
  by_cases hji : j = i
  · simp only [if_pos hji, New] at hk
    exact ⟨by omega, by omega, by omega, fun _ => by simp only [NN]; omega⟩
  · simp only [if_neg hji] at hk
    obtain ⟨⟨a, b, c, d⟩, _⟩ := hk
    exact ⟨a, b, c, fun hj => d (by omega)⟩
theorem sloop_done {w wr : World} {x : Msg} {g p d m t k a : Value} {gs cs : Nat} (h : SLoop w x g p d m t k a gs cs x.Query.Sets.length wr) (hq : x.Query.Sets.length * 24 ≤ 140737488355328) : Cut4 w x g p wr :=
  ⟨d, m, t, k, _, a, h.1, h.2.1.mono (fun k hk => hk.1), ⟨_, cs, rfl, h.2.2.1.2.1, hq, h.2.2.1.C h.2.2.2.1 (fun j k hj hk => hk.2.2.2 hj)⟩, .inr ⟨gs, cs, rfl, h.2.2.2.1, (by obtain ⟨⟨cur, h1, _⟩, _⟩ := h.2.2.1; exact ⟨cur, h1⟩), fun j hj => by
    obtain ⟨u, h1, h2⟩ := h.2.2.2.2 j hj hj
    exact ⟨u, h1, h2.mono (fun k hk => hk.1)⟩⟩⟩
theorem sloop_cells {w wr w5 : World} {x : Msg} {g p d m t k a : Value} {gs cs i : Nat} {v : Value} (h : SLoop w x g p d m t k a gs cs i wr) (hr : wr.rangeAt gs (i * kInts.sz) [v]) (hb : Below wr.heap.size wr w5) :
    w5.cell? ⟨w.heap.size, 21, none⟩ = some (.slice (some ⟨gs, 0, none⟩) x.Query.Sets.length cs) ∧ w5.cell? ⟨gs, i, none⟩ = some v ∧ w5.frozen? ⟨gs, i, none⟩ = false := by
  have hg := h.2.2.1.lt
  have hr' := Kd.range_move hr (hb.block gs hg)
  obtain ⟨⟨cur, h1, _⟩, _⟩ := h.2.2.1
  have h0 := hr' 0 v rfl
  have : i * kInts.sz + 0 = i := Nat.mul_one i
  rw [this] at h0
  exact ⟨(blk_cell (oBox_later h.1 hb).1 21).trans rfl, h0, blk_frozen (blk_below h1 hb) _⟩

/-! ### The groups -/
def GLoop (w : World) (x : Msg) (d m t k a s g : Value) (gp cp i : Nat) (wr : World) : Prop :=
  oBox w x wr d m t k s a g (.slice (some ⟨gp, 0, none⟩) x.Groups.length cp) ∧ Got5 x wr (fun k => NN w k ∧ k ≠ gp) d m t k a s g ∧
    kGroup.Row 128 wr gp cp x.Groups (fun j k => k ≠ gp ∧ k ≠ w.heap.size ∧ k ≠ w.heap.size + 1 ∧ (j < i → NN w k)) ∧ NN w gp
theorem gloop_start {w wc : World} {x : Msg} {d m t k a s g : Value} {gp cp : Nat} (hB : oBox w x wc d m t k s a g (.slice (some ⟨gp, 0, none⟩) x.Groups.length cp)) (hG : Got5 x wc (fun k => NN w k ∧ some k ≠ (Value.slice (some ⟨gp, 0, none⟩) x.Groups.length cp).ownBlock) d m t k a s g)
    (hR : kGroup.Row 128 wc gp cp x.Groups (fun _ k => (NN w k ∨ k < w.heap.size) ∧ k ≠ gp)) (hg : NN w gp) : GLoop w x d m t k a s g gp cp 0 wc :=
  ⟨hB, hG.mono (fun k hk => ⟨hk.1, fun he => hk.2 (by rw [he]; rfl)⟩), hR.mono (fun j k _ hk => ⟨hk.2, by simp only [NN] at hk; omega, by simp only [NN] at hk; omega, fun h => by omega⟩), hg⟩
theorem gloop_step {w wr w5 : World} {x : Msg} {d m t k a s g : Value} {gp cp i : Nat} {y : Group} {v0 v1 v2 v3 : Value} (h : GLoop w x d m t k a s g gp cp i wr) (hi : i < x.Groups.length) (hb : Below wr.heap.size wr w5) (hy : x.Groups[i] = y) (hK : kGroup.K w5 (New wr) y [v0, v1, v2, v3]) :
    GLoop w x d m t k a s g gp cp (i + 1) ((((w5.setCell ⟨gp, i * 4, none⟩ v0).setCell ⟨gp, i * 4 + 1, none⟩ v1).setCell ⟨gp, i * 4 + 2, none⟩ v2).setCell ⟨gp, i * 4 + 3, none⟩ v3) := by
  obtain ⟨h1, h2, h3, h4⟩ := h
  have l1 := blk_lt h1.1
  have l2 := blk_lt h1.2.1
  have lg := h3.lt
  simp only [NN] at h4
  have hput := (h3.known.below hb).put hi (p := y) hK (fun k hk => by simp only [New] at hk; omega) (fun j k _ hk => hk.1.1)
  rw [← hy, List.set_getElem_self] at hput
  have hw : w5.setCells gp (i * kGroup.sz) [v0, v1, v2, v3] = (((w5.setCell ⟨gp, i * 4, none⟩ v0).setCell ⟨gp, i * 4 + 1, none⟩ v1).setCell ⟨gp, i * 4 + 2, none⟩ v2).setCell ⟨gp, i * 4 + 3, none⟩ v3 := by
    have : kGroup.sz = 4 := rfl
    rw [this]
    simp only [World.setCells, Nat.add_assoc, Nat.reduceAdd]
  rw [← hw]
  refine ⟨oBox_sets (oBox_later h1 hb) h4 _ _, (h2.known.move (fun k hk hl => hb.block k hl)).mono (fun k hk => hk.1) |>.move (fun k hk _ => setCells_other _ _ _ hk.2), ?_, h4⟩
  refine hput.mono (fun j k hj hk => ?_)
  by_cases hji : j = i
  · simp only [if_pos hji, New] at hk
    exact ⟨by omega, by omega, by omega, fun _ => by simp only [NN]; omega⟩
  · simp only [if_neg hji] at hk
    obtain ⟨⟨a, b, c, d⟩, _⟩ := hk
    exact ⟨a, b, c, fun hj => d (by omega)⟩
theorem gloop_done {w wr : World} {x : Msg} {d m t k a s g : Value} {gp cp : Nat} (h : GLoop w x d m t k a s g gp cp x.Groups.length wr) (hq : x.Groups.length * 64 ≤ 140737488355328) : Cut6 w x wr :=
  ⟨d, m, t, k, s, a, g, _, h.1, h.2.1.mono (fun k hk => hk.1), ⟨_, cp, rfl, h.2.2.1.2.1, hq, h.2.2.1.C h.2.2.2 (fun j k hj hk => hk.2.2.2 hj)⟩⟩
theorem gloop_cells {w wr w5 : World} {x : Msg} {d m t k a s g : Value} {gp cp i : Nat} {v0 v1 v2 v3 : Value} (h : GLoop w x d m t k a s g gp cp i wr) (hr : wr.rangeAt gp (i * kGroup.sz) [v0, v1, v2, v3]) (hb : Below wr.heap.size wr w5) :
    w5.cell? ⟨w.heap.size, 40, none⟩ = some (.slice (some ⟨gp, 0, none⟩) x.Groups.length cp) ∧ w5.cell? ⟨gp, i * 4, none⟩ = some v0 ∧ w5.cell? ⟨gp, i * 4 + 1, none⟩ = some v1 ∧ w5.cell? ⟨gp, i * 4 + 2, none⟩ = some v2 ∧ w5.cell? ⟨gp, i * 4 + 3, none⟩ = some v3 ∧ (∀ o, w5.frozen? ⟨gp, o, none⟩ = false) := by
  have hg := h.2.2.1.lt
  have hr' := Kd.range_move hr (hb.block gp hg)
  obtain ⟨⟨cur, h1, _⟩, _⟩ := h.2.2.1
  exact ⟨(blk_cell (oBox_later h.1 hb).1 40).trans rfl, hr' 0 v0 rfl, hr' 1 v1 rfl, hr' 2 v2 rfl, hr' 3 v3 rfl, fun o => blk_frozen (blk_below h1 hb) _⟩

/-! ### A group's parts -/
def zBox (wr : World) (y : Group) (wc : World) (d p : Value) : Prop := wc.heap[wr.heap.size]? = some (.cells #[.int .i64 y.Key.Set, .int .i64 y.Key.Bucket, d, p] 128 (0, 0)) ∧ Below wr.heap.size wr wc
def ICut1 (wr : World) (y : Group) (wc : World) : Prop := ∃ A c A' c', zBox wr y wc (.slice A y.Key.Dims.length c) (.slice A' y.Parts.length c') ∧ Kd.string.Own 9 wc (fun k => wr.heap.size + 1 ≤ k) (wr.heap.size + 1) (.slice A y.Key.Dims.length c) y.Key.Dims ∧
  kPartial.Own 131 wc (fun k => wr.heap.size + 1 ≤ k ∨ k < wr.heap.size) (wr.heap.size + 1) (.slice A' y.Parts.length c') y.Parts
def ICut2 (wr : World) (y : Group) (wc : World) : Prop := ∃ d p, zBox wr y wc d p ∧ kGroup.K wc (New wr) y [.int .i64 y.Key.Set, .int .i64 y.Key.Bucket, d, p]
def ILoop (wr : World) (y : Group) (d : Value) (gq cq i : Nat) (wc : World) : Prop :=
  zBox wr y wc d (.slice (some ⟨gq, 0, none⟩) y.Parts.length cq) ∧ (Kd.slice 16 Kd.string).K wc (fun k => wr.heap.size + 1 ≤ k ∧ k ≠ gq) y.Key.Dims [d] ∧
    kPartial.Row 131 wc gq cq y.Parts (fun j k => k ≠ gq ∧ k ≠ wr.heap.size ∧ (j < i → wr.heap.size + 1 ≤ k)) ∧ wr.heap.size + 1 ≤ gq
theorem zset {wr W : World} {y : Group} {d p : Value} (h : zBox wr y W d p) (i : Nat) (v : Value) : Below wr.heap.size wr (W.setCell ⟨wr.heap.size, i, none⟩ v) := h.2.setCell (p := ⟨wr.heap.size, i, none⟩) (Nat.le_refl _) v
theorem icut1_end {wr w3 w4 V3 V4 : World} {y : Group} {d p : Value} {A2 A3 : Option Addr} {c2 c3 : Nat} (h1 : zBox wr y w4 d p)
    (h3 : Kd.string.Own 9 w3 (New V3) V3.heap.size (.slice A2 y.Key.Dims.length c2) y.Key.Dims) (hV3 : wr.heap.size + 1 ≤ V3.heap.size) (hb4 : Below V4.heap.size V4 w4) (hV34 : V4.heap = w3.heap)
    (h4 : kPartial.Own 131 w4 (NewOr V4 (fun k => k < wr.heap.size)) V4.heap.size (.slice A3 y.Parts.length c3) y.Parts) (hV4 : wr.heap.size + 1 ≤ V4.heap.size) :
    ICut1 wr y ((w4.setCell ⟨wr.heap.size, 2, none⟩ (.slice A2 y.Key.Dims.length c2)).setCell ⟨wr.heap.size, 3, none⟩ (.slice A3 y.Parts.length c3)) := by
  have h3' : Kd.string.Own 9 w4 (New V3) V3.heap.size (.slice A2 y.Key.Dims.length c2) y.Key.Dims := Kd.Own_move (fun k _ hk => by rw [← hV34] at hk ⊢; exact hb4.block k hk) h3
  refine ⟨A2, c2, A3, c3, ⟨blk_set (blk_set h1.1 2 _) 3 _, (h1.2.setCell (p := ⟨wr.heap.size, 2, none⟩) (Nat.le_refl _) _).setCell (p := ⟨wr.heap.size, 3, none⟩) (Nat.le_refl _) _⟩, ?_, ?_⟩
  · refine Own_set (Own_set (Own_base hV3 (Kd.Own_mono h3' (fun k hk => Nat.le_trans hV3 hk))) _ ?_) _ ?_ <;> (intro k hk; show k ≠ wr.heap.size; omega)
  · refine Own_set (Own_set (Own_base hV4 (Kd.Own_mono h4 (F' := fun k => wr.heap.size + 1 ≤ k ∨ k < wr.heap.size) (fun k hk => ?_))) _ ?_) _ ?_
    · rcases hk with hk | hk
      · exact .inl (Nat.le_trans hV4 hk)
      · exact .inr hk
    · intro k hk; show k ≠ wr.heap.size; omega
    · intro k hk; show k ≠ wr.heap.size; omega
theorem iloop_start {wr wc : World} {y : Group} {A : Option Addr} {c gq cq : Nat} (hB : zBox wr y wc (.slice A y.Key.Dims.length c) (.slice (some ⟨gq, 0, none⟩) y.Parts.length cq)) (hT : Kd.string.Own 9 wc (fun k => wr.heap.size + 1 ≤ k) (wr.heap.size + 1) (.slice A y.Key.Dims.length c) y.Key.Dims)
    (hR : kPartial.Row 131 wc gq cq y.Parts (fun _ k => (wr.heap.size + 1 ≤ k ∨ k < wr.heap.size) ∧ k ≠ gq)) (hg : wr.heap.size + 1 ≤ gq) (hq : y.Key.Dims.length * 16 ≤ 140737488355328) : ILoop wr y (.slice A y.Key.Dims.length c) gq cq 0 wc := by
  refine ⟨hB, ?_, hR.mono (fun j k _ hk => ⟨hk.2, by omega, fun h => by omega⟩), hg⟩
  have hT' := strings_far (F' := fun k => wr.heap.size + 1 ≤ k ∧ k ≠ gq) hT (fun k hk => ⟨hT.1 k hk, own_ne_row hT hR (by decide) k hk⟩)
  exact Kd.Own_K hT' hq
theorem zBox_later {wr wc w5 : World} {y : Group} {d p : Value} (h : zBox wr y wc d p) (hb : Below wc.heap.size wc w5) : zBox wr y w5 d p := ⟨blk_below h.1 hb, h.2.trans (hb.mono h.2.size)⟩
theorem iloop_step {wr wc w5 : World} {y : Group} {d : Value} {gq cq i : Nat} {q : Partial} {u : Value} {A' : Option Addr} {c' : Nat} (h : ILoop wr y d gq cq i wc) (hi : i < y.Parts.length) (hb : Below wc.heap.size wc w5) (hy : y.Parts[i] = q)
    (hr : wc.rangeAt gq (i * kPartial.sz) [.int .u64 q.N, .int .i64 q.V, u]) (hK : Kd.string.C w5 (New wc) A' q.Texts.length q.Texts) (hl : q.Texts.length ≤ c') (hn : (Lit.int .u64 q.N).wf = true ∧ (Lit.int .i64 q.V).wf = true ∧ q.Texts.length * 16 ≤ 140737488355328) :
    ILoop wr y d gq cq (i + 1) (w5.setCell ⟨gq, i * 3 + 2, none⟩ (.slice A' q.Texts.length c')) := by
  obtain ⟨h1, h2, h3, h4⟩ := h
  have l1 := blk_lt h1.1
  have lg := h3.lt
  have hr' := Kd.range_move hr (hb.block gq lg)
  have hput := (h3.known.below hb).putCell (f := 2) (u := .slice A' q.Texts.length c') hi (by decide) hr' rfl (p := q) (Fp := New wc) (kPartial_mk w5 (New wc) q hn.1 hn.2.1 ⟨hl, hn.2.2, hK⟩) (fun k hk => by simp only [New] at hk; omega) (fun j k _ hk => hk.1.1)
  rw [← hy, List.set_getElem_self] at hput
  have hs : kPartial.sz = 3 := rfl
  rw [hs] at hput
  refine ⟨⟨?_, ?_⟩, ?_, ?_, h4⟩
  · rw [set_other (by show wr.heap.size ≠ gq; omega)]
    exact (zBox_later h1 hb).1
  · exact (zBox_later h1 hb).2.setCell (p := ⟨gq, i * 3 + 2, none⟩) (by show _ ≤ gq; omega) _
  · exact (Kd.slice 16 Kd.string).move (fun k hk _ => set_other hk.2) (Kd.below h2 hb)
  · rw [← hy]
    refine Kd.Row.mono hput (fun j k hj hk => ?_)
    by_cases hji : j = i
    · simp only [if_pos hji, New] at hk
      exact ⟨by omega, by omega, fun _ => by have := h1.2.size; omega⟩
    · simp only [if_neg hji] at hk
      obtain ⟨⟨a, b, c⟩, _⟩ := hk
      exact ⟨a, b, fun hj => c (by omega)⟩
theorem iloop_done {wr wc : World} {y : Group} {d : Value} {gq cq : Nat} (h : ILoop wr y d gq cq y.Parts.length wc) (hn : (Lit.int .i64 y.Key.Set).wf = true ∧ (Lit.int .i64 y.Key.Bucket).wf = true ∧ y.Parts.length * 40 ≤ 140737488355328) : ICut2 wr y wc := by
  obtain ⟨h1, h2, h3, h4⟩ := h
  obtain ⟨A, c, e, hd⟩ := h2
  simp only [List.cons.injEq, and_true] at e
  subst e
  refine ⟨_, _, h1, kGroup_mk wc (New wr) y hn.1 hn.2.1 ⟨hd.1, hd.2.1, Kd.C_mono (fun k hk => by simp only [New]; omega) hd.2.2⟩ ⟨h3.2.1, hn.2.2, h3.C (by simp only [New]; omega) (fun j k hj hk => by have := hk.2.2 hj; simp only [New]; omega)⟩⟩
theorem iloop_cells {wr wc w5 : World} {y : Group} {d : Value} {gq cq i : Nat} {v0 v1 v2 : Value} (h : ILoop wr y d gq cq i wc) (hr : wc.rangeAt gq (i * kPartial.sz) [v0, v1, v2]) (hb : Below wc.heap.size wc w5) :
    w5.cell? ⟨wr.heap.size, 3, none⟩ = some (.slice (some ⟨gq, 0, none⟩) y.Parts.length cq) ∧ w5.cell? ⟨gq, i * 3, none⟩ = some v0 ∧ w5.cell? ⟨gq, i * 3 + 1, none⟩ = some v1 ∧ w5.cell? ⟨gq, i * 3 + 2, none⟩ = some v2 ∧ (∀ o, w5.frozen? ⟨gq, o, none⟩ = false) := by
  have hg := h.2.2.1.lt
  have hr' := Kd.range_move hr (hb.block gq hg)
  obtain ⟨⟨cur, h1, _⟩, _⟩ := h.2.2.1
  exact ⟨(blk_cell (zBox_later h.1 hb).1 3).trans rfl, hr' 0 v0 rfl, hr' 1 v1 rfl, hr' 2 v2 rfl, fun o => blk_frozen (blk_below h1 hb) _⟩
end Go.Proofs.Ytjpeaeklhcnpnaa.K
