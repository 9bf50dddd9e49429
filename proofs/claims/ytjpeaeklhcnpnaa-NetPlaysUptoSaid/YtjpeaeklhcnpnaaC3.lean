/- net.filter by a contract: a filter in new memory. No condition. -/
import Derived.Test.YtjpeaeklhcnpnaaC2
import Derived.Deep.RegionLaw
import Derived.Deep.DrawnRows
import Derived.Outline
namespace Go.Proofs.Ytjpeaeklhcnpnaa.K
open Go.RowKit
set_option linter.unusedVariables false
set_option linter.unusedSimpArgs false
attribute [local go_sem ↓] Go.wp_at_zero Go.wp_at_succ

def FPost (x : Filter) (w : World) (e : Ending) (w' : World) : Prop := ∃ cs, e = .returned (.agg cs.toArray) ∧ kFilter.K w' (New w) x cs ∧ Below w.heap.size w w'
def FHead (w : World) (x : Filter) (wc : World) : Prop :=
  ∃ A0 c0 A1 c1, wc.heap[w.heap.size]? = some (.cells #[.int .i64 x.Kind, .int .i64 x.Dim, .slice A0 x.Texts.length c0, .int .i64 x.Lo, .int .i64 x.Hi, .slice A1 x.Kids.length c1] 40 (0, 0)) ∧
    wc.heap[w.heap.size + 1]? = some (.cells #[.int .i64 0, .int .i64 0, .slice none 0 0, .int .i64 0, .int .i64 0, .slice none 0 0] 40 (0, 0)) ∧ Below w.heap.size w wc ∧
    Kd.string.Own 9 wc (fun k => w.heap.size + 2 ≤ k) (w.heap.size + 2) (.slice A0 x.Texts.length c0) x.Texts ∧ kFilter.Own 40 wc (fun k => w.heap.size + 2 ≤ k ∨ k < w.heap.size) (w.heap.size + 2) (.slice A1 x.Kids.length c1) x.Kids

theorem Own_base {α : Type} {d : Kd α} {e : TypeId} {w : World} {F : Nat → Prop} {base base' : Nat} {v : Value} {xs : List α} (hb : base' ≤ base) (h : d.Own e w F base v xs) : d.Own e w F base' v xs := by
  obtain ⟨h0, inner, ho, hr⟩ := h
  refine ⟨h0, inner, ⟨ho.1, ?_⟩, hr⟩
  rcases ho.2 with h2 | ⟨g, cap, cur, rfl, hg, h2⟩
  · exact .inl h2
  · exact .inr ⟨g, cap, cur, rfl, Nat.le_trans hb hg, h2⟩
theorem Own_set {α : Type} {d : Kd α} {e : TypeId} {w : World} {F : Nat → Prop} {base : Nat} {v : Value} {xs : List α} (h : d.Own e w F base v xs) {a : Addr} (u : Value) (hF : ∀ k, F k → k ≠ a.block) : d.Own e (w.setCell a u) F base v xs :=
  Kd.Own_move (fun k hk _ => set_other (hF k hk)) h
theorem blk_later {w w1 : World} {g : Nat} {o : Obj} (hb : Below w.heap.size w w1) (h : w.heap[g]? = some o) : w1.heap[g]? = some o := blk_below h hb
theorem C_set {α : Type} {d : Kd α} {w : World} {F : Nat → Prop} {A : Option Addr} {n : Nat} {xs : List α} {a : Addr} {v : Value} (h : d.C w F A n xs) (hne : ∀ k, F k → k ≠ a.block) : d.C (w.setCell a v) F A n xs := Kd.C_move (fun k hk _ => set_other (hne k hk)) h
theorem two_known {w W : World} {o1 o2 : Obj} (hW : (w.alloc o1).alloc o2 = W) : W.heap[w.heap.size]? = some o1 ∧ W.heap[w.heap.size + 1]? = some o2 ∧ Below w.heap.size w W ∧ W.heap.size = w.heap.size + 2 := by
  subst hW
  have h2 := blk_new (w.alloc o1) o2
  simp only [World.alloc, Array.size_push] at h2 ⊢
  refine ⟨blk_alloc (blk_new w o1) o2, h2, below_alloc (below_alloc (Below.refl _ w) _) _, ?_⟩
  simp

theorem fhead_end {w w3 w4 V3 V4 : World} {x : Filter} {A0 A1 A2 A3 : Option Addr} {c0 c1 c2 c3 : Nat}
    (h1 : w4.heap[w.heap.size]? = some (.cells #[.int .i64 x.Kind, .int .i64 x.Dim, .slice A0 x.Texts.length c0, .int .i64 x.Lo, .int .i64 x.Hi, .slice A1 x.Kids.length c1] 40 (0, 0)))
    (h2 : w4.heap[w.heap.size + 1]? = some (.cells #[.int .i64 0, .int .i64 0, .slice none 0 0, .int .i64 0, .int .i64 0, .slice none 0 0] 40 (0, 0)))
    (hB : Below w.heap.size w w4) (h3 : Kd.string.Own 9 w3 (New V3) V3.heap.size (.slice A2 x.Texts.length c2) x.Texts) (hV3 : w.heap.size + 2 ≤ V3.heap.size) (hb4 : Below V4.heap.size V4 w4) (hV34 : V4.heap = w3.heap)
    (h4 : kFilter.Own 40 w4 (NewOr V4 (fun k => k < w.heap.size)) V4.heap.size (.slice A3 x.Kids.length c3) x.Kids) (hV4 : w.heap.size + 2 ≤ V4.heap.size) :
    FHead w x ((w4.setCell ⟨w.heap.size, 2, none⟩ (.slice A2 x.Texts.length c2)).setCell ⟨w.heap.size, 5, none⟩ (.slice A3 x.Kids.length c3)) := by
  have h3' : Kd.string.Own 9 w4 (New V3) V3.heap.size (.slice A2 x.Texts.length c2) x.Texts := Kd.Own_move (fun k _ hk => by rw [← hV34] at hk ⊢; exact hb4.block k hk) h3
  refine ⟨A2, c2, A3, c3, blk_set (blk_set h1 2 _) 5 _, ?_, ?_, ?_, ?_⟩
  · rw [set_other (by show w.heap.size + 1 ≠ w.heap.size; omega), set_other (by show w.heap.size + 1 ≠ w.heap.size; omega)]
    exact h2
  · exact (hB.setCell (p := ⟨w.heap.size, 2, none⟩) (Nat.le_refl _) _).setCell (p := ⟨w.heap.size, 5, none⟩) (Nat.le_refl _) _
  · refine Own_set (Own_set (Own_base hV3 (Kd.Own_mono h3' (fun k hk => Nat.le_trans hV3 hk))) _ ?_) _ ?_ <;> (intro k hk; show k ≠ w.heap.size; omega)
  · refine Own_set (Own_set (Own_base hV4 (Kd.Own_mono h4 (F' := fun k => w.heap.size + 2 ≤ k ∨ k < w.heap.size) (fun k hk => ?_))) _ ?_) _ ?_
    · rcases hk with hk | hk
      · exact .inl (Nat.le_trans hV4 hk)
      · exact .inr hk
    · intro k hk; show k ≠ w.heap.size; omega
    · intro k hk; show k ≠ w.heap.size; omega

def FLoop (w : World) (x : Filter) (A0 : Option Addr) (c0 g c1 i : Nat) (wr : World) : Prop :=
  wr.heap[w.heap.size]? = some (.cells #[.int .i64 x.Kind, .int .i64 x.Dim, .slice A0 x.Texts.length c0, .int .i64 x.Lo, .int .i64 x.Hi, .slice (some ⟨g, 0, none⟩) x.Kids.length c1] 40 (0, 0)) ∧
    wr.heap[w.heap.size + 1]? = some (.cells #[.int .i64 0, .int .i64 0, .slice none 0 0, .int .i64 0, .int .i64 0, .slice none 0 0] 40 (0, 0)) ∧ Below w.heap.size w wr ∧
    Kd.string.Own 9 wr (fun k => w.heap.size + 2 ≤ k ∧ k ≠ g) (w.heap.size + 2) (.slice A0 x.Texts.length c0) x.Texts ∧
    kFilter.Row 40 wr g c1 x.Kids (fun j k => k ≠ g ∧ k ≠ w.heap.size ∧ k ≠ w.heap.size + 1 ∧ (j < i → w.heap.size + 2 ≤ k)) ∧ w.heap.size + 2 ≤ g
def FDone (w : World) (x : Filter) (wc : World) : Prop :=
  ∃ A0 c0 A1 c1, wc.heap[w.heap.size]? = some (.cells #[.int .i64 x.Kind, .int .i64 x.Dim, .slice A0 x.Texts.length c0, .int .i64 x.Lo, .int .i64 x.Hi, .slice A1 x.Kids.length c1] 40 (0, 0)) ∧
    wc.heap[w.heap.size + 1]? = some (.cells #[.int .i64 0, .int .i64 0, .slice none 0 0, .int .i64 0, .int .i64 0, .slice none 0 0] 40 (0, 0)) ∧ Below w.heap.size w wc ∧
    Kd.string.C wc (fun k => w.heap.size + 2 ≤ k) A0 x.Texts.length x.Texts ∧ x.Texts.length ≤ c0 ∧ kFilter.C wc (fun k => w.heap.size + 2 ≤ k) A1 x.Kids.length x.Kids ∧ x.Kids.length ≤ c1
theorem own_ne_row {α β : Type} {d : Kd α} {d' : Kd β} {e e' : TypeId} {w : World} {F : Nat → Prop} {F' : Nat → Nat → Prop} {base g cap : Nat} {v : Value} {xs : List α} {ys : List β} (h : d.Own e w F base v xs) (h' : d'.Row e' w g cap ys F') (hne : e ≠ e') : ∀ k, v.ownBlock = some k → k ≠ g := by
  rintro k hk rfl
  obtain ⟨h0, inner, ho, hr⟩ := h
  obtain ⟨⟨cur, h1, _⟩, _⟩ := h'
  rcases ho.2 with ⟨rfl, _⟩ | ⟨g', cap', cur', rfl, _, hh, _⟩
  · simp [Value.ownBlock] at hk
  · have : g' = k := by simpa [Value.ownBlock] using hk
    subst this
    rw [h1] at hh
    injection hh with hh
    injection hh with _ he
    exact hne he.symm
theorem strings_far {w : World} {F F' : Nat → Prop} {base : Nat} {v : Value} {xs : List ByteArray} (h : Kd.string.Own 9 w F base v xs) (hF : ∀ k, v.ownBlock = some k → F' k) : Kd.string.Own 9 w F' base v xs := by
  obtain ⟨h0, inner, ho, hr⟩ := h
  exact ⟨hF, inner, ho, hr⟩
theorem floop_start {w wc : World} {x : Filter} {A0 : Option Addr} {c0 g c1 : Nat}
    (h1 : wc.heap[w.heap.size]? = some (.cells #[.int .i64 x.Kind, .int .i64 x.Dim, .slice A0 x.Texts.length c0, .int .i64 x.Lo, .int .i64 x.Hi, .slice (some ⟨g, 0, none⟩) x.Kids.length c1] 40 (0, 0)))
    (h2 : wc.heap[w.heap.size + 1]? = some (.cells #[.int .i64 0, .int .i64 0, .slice none 0 0, .int .i64 0, .int .i64 0, .slice none 0 0] 40 (0, 0)))
    (hB : Below w.heap.size w wc) (hT : Kd.string.Own 9 wc (fun k => w.heap.size + 2 ≤ k) (w.heap.size + 2) (.slice A0 x.Texts.length c0) x.Texts)
    (hR : kFilter.Row 40 wc g c1 x.Kids (fun _ k => (w.heap.size + 2 ≤ k ∨ k < w.heap.size) ∧ k ≠ g)) (hg : w.heap.size + 2 ≤ g) : FLoop w x A0 c0 g c1 0 wc :=
  ⟨h1, h2, hB, strings_far hT (fun k hk => ⟨hT.1 k hk, own_ne_row hT hR (by decide) k hk⟩), hR.mono (fun j k _ hk => ⟨hk.2, by omega, by omega, fun h => by omega⟩), hg⟩
theorem floop_step {w wr w5 : World} {x : Filter} {A0 : Option Addr} {c0 g c1 i : Nat} {cs : List Value} (h : FLoop w x A0 c0 g c1 i wr) (hi : i < x.Kids.length) (hb : Below wr.heap.size wr w5) (hK : kFilter.K w5 (New wr) x.Kids[i] cs) :
    FLoop w x A0 c0 g c1 (i + 1) (w5.setCells g (i * 6) cs) := by
  obtain ⟨h1, h2, h3, h4, h5, h6⟩ := h
  have l1 := blk_lt h1
  have l2 := blk_lt h2
  have lg := h5.lt
  have hput := (h5.known.below hb).put hi hK (fun k hk => by simp only [New] at hk; omega) (fun j k _ hk => hk.1.1)
  rw [List.set_getElem_self] at hput
  refine ⟨?_, ?_, below_setCells (by omega) _ _ _ (h3.trans (hb.mono h3.size)), Kd.Own_move (fun k hk _ => setCells_other _ _ _ hk.2) (Kd.Own_below h4 hb), Kd.Row.mono hput (fun j k hj hk => ?_), h6⟩
  · rw [setCells_other _ _ _ (by omega)]; exact blk_below h1 hb
  · rw [setCells_other _ _ _ (by omega)]; exact blk_below h2 hb
  · by_cases hji : j = i
    · simp only [if_pos hji, New] at hk
      exact ⟨by omega, by omega, by omega, fun _ => by omega⟩
    · simp only [if_neg hji] at hk
      obtain ⟨⟨a, b, c, d⟩, _⟩ := hk
      exact ⟨a, b, c, fun hj => d (by omega)⟩
theorem floop_step6 {w wr w5 : World} {x y : Filter} {A0 : Option Addr} {c0 g c1 i : Nat} {v0 v1 v2 v3 v4 v5 : Value} (h : FLoop w x A0 c0 g c1 i wr) (hi : i < x.Kids.length) (hb : Below wr.heap.size wr w5) (hy : x.Kids[i] = y) (hK : kFilter.K w5 (New wr) y [v0, v1, v2, v3, v4, v5]) :
    FLoop w x A0 c0 g c1 (i + 1) ((((((w5.setCell ⟨g, i * 6, none⟩ v0).setCell ⟨g, i * 6 + 1, none⟩ v1).setCell ⟨g, i * 6 + 2, none⟩ v2).setCell ⟨g, i * 6 + 3, none⟩ v3).setCell ⟨g, i * 6 + 4, none⟩ v4).setCell ⟨g, i * 6 + 5, none⟩ v5) := by
  have h1 := floop_step h hi hb (cs := [v0, v1, v2, v3, v4, v5]) (by rw [hy]; exact hK)
  simpa only [World.setCells, Nat.add_assoc, Nat.reduceAdd] using h1
theorem floop_done {w wr : World} {x : Filter} {A0 : Option Addr} {c0 g c1 : Nat} (h : FLoop w x A0 c0 g c1 x.Kids.length wr) : FDone w x wr := by
  obtain ⟨h1, h2, h3, h4, h5, h6⟩ := h
  obtain ⟨A', c', he, hl, hC⟩ := Kd.Own_C h4
  injection he with e1 e2 e3
  subst e1 e3
  exact ⟨_, _, _, _, h1, h2, h3, Kd.C_mono (fun k hk => hk.1) hC, hl, h5.C h6 (fun j k hj hk => hk.2.2.2 hj), h5.2.1⟩

theorem kid_lt {x : Filter} {i : Nat} (hi : i < x.Kids.length) : SizeOf.sizeOf x.Kids[i] < SizeOf.sizeOf x := by
  have h1 := List.sizeOf_lt_of_mem (List.getElem_mem hi)
  have h2 : SizeOf.sizeOf x.Kids < SizeOf.sizeOf x := by
    cases x
    simp only [Filter.mk.sizeOf_spec]
    omega
  omega
/-- What is in the row, behind a call. -/
theorem floop_cells {w wr w5 : World} {x : Filter} {A0 : Option Addr} {c0 g c1 i : Nat} {v0 v1 v2 v3 v4 v5 : Value} (h : FLoop w x A0 c0 g c1 i wr) (hi : i < x.Kids.length) (hr : wr.rangeAt g (i * kFilter.sz) [v0, v1, v2, v3, v4, v5]) (hb : Below wr.heap.size wr w5) :
    w5.cell? ⟨w.heap.size, 5, none⟩ = some (.slice (some ⟨g, 0, none⟩) x.Kids.length c1) ∧ w5.cell? ⟨g, i * 6, none⟩ = some v0 ∧ w5.cell? ⟨g, i * 6 + 1, none⟩ = some v1 ∧ w5.cell? ⟨g, i * 6 + 2, none⟩ = some v2 ∧ w5.cell? ⟨g, i * 6 + 3, none⟩ = some v3 ∧ w5.cell? ⟨g, i * 6 + 4, none⟩ = some v4 ∧ w5.cell? ⟨g, i * 6 + 5, none⟩ = some v5 ∧
    (∀ o, w5.frozen? ⟨g, o, none⟩ = false) := by
  have hg := h.2.2.2.2.1.lt
  have hr' := Kd.range_move hr (hb.block g hg)
  obtain ⟨⟨cur, h1, _⟩, _⟩ := h.2.2.2.2.1
  exact ⟨(blk_cell (blk_below h.1 hb) 5).trans rfl, hr' 0 _ rfl, hr' 1 _ rfl, hr' 2 _ rfl, hr' 3 _ rfl, hr' 4 _ rfl, hr' 5 _ rfl, fun o => blk_frozen (blk_below h1 hb) o⟩

set_option maxHeartbeats 4000000 in
set_option maxRecDepth 100000 in
theorem filter_any (N : Nat) : ∀ (x : Filter), SizeOf.sizeOf x ≤ N → ∀ cs w, kFilter.K w Any x cs → Calls Try.prog 51 #[.agg cs.toArray] w (FPost x w) := by
  induction N with
  | zero => intro x hx; cases x; simp at hx
  | succ N ih =>
  intro x hx cs w h
  obtain ⟨A0, c0, A1, c1, rfl, q0, q1, q2, q3, q4, q5⟩ := kFilter_open h
  have HC49 := fun W (I : Aside (Below w.heap.size w W)) => Aside.mk (clone49_any x.Texts A0 c0 W (Kd.C_below q2.2.2 I.out) q2.2.1)
  have HC74 := fun W (I : Aside (Below w.heap.size w W)) => Aside.mk (clone74_any x.Kids A1 c1 W (fun k => k < w.heap.size) (Kd.C_below (Kd.C_mono (fun k hk => hk.2) (Kd.C_lt q5.2.2)) I.out) q5.2.1)
  have HQ := Aside.mk (And.intro q0 (And.intro q1 (And.intro q3 (And.intro q4 (And.intro q2.2.1 q5.2.1)))))
  have IH := Aside.mk ih
  have HX := Aside.mk hx
  clear h q0 q1 q2 q3 q4 q5 hx ih
  go_enter Try.func51, Try.ntmps51
  go_wp2_with fail
  generalize hW : (w.alloc _).alloc _ = W
  go_cut [5] (fun v5 wc => FHead w x wc)
  case first =>
    obtain ⟨b1, b2, hbel, hsz⟩ := two_known hW
    have HI0 : Aside (Below w.heap.size w W.drew) := ⟨hbel.drew⟩
    have HB1 := Aside.mk b1
    have HB2 := Aside.mk b2
    have HS := Aside.mk hsz
    have f2 : W.cell? ⟨w.heap.size, 2, none⟩ = some (.slice A0 x.Texts.length c0) := (blk_cell b1 2).trans rfl
    have f5 : W.cell? ⟨w.heap.size, 5, none⟩ = some (.slice A1 x.Kids.length c1) := (blk_cell b1 5).trans rfl
    have g2 : W.frozen? ⟨w.heap.size, 2, none⟩ = false := blk_frozen b1 2
    have g5 : W.frozen? ⟨w.heap.size, 5, none⟩ = false := blk_frozen b1 5
    clear hW b1 b2 hbel hsz
    go_region_law (first
      | (go_simp; go_at_call 49; refine (HC49 _ (by assumption)).out.mono ?_; rintro e w3 ⟨A', c', rfl, hO, hb⟩; have HO3 := Aside.mk hO; have HI3 := Aside.mk (below_self HI0.out hb); have HB3 := Aside.mk hb; have hB := blk_later hb HB1.out; have f2 := (blk_cell hB 2).trans rfl; have f5 := (blk_cell hB 5).trans rfl; have g2 := blk_frozen hB 2; have g5 := blk_frozen hB 5; have HB13 := Aside.mk hB; have HB23 := Aside.mk (blk_later hb HB2.out); clear hO hb hB)
      | (go_simp; go_at_call 74; refine (HC74 _ (by assumption)).out.mono ?_; rintro e w4 ⟨A', c', rfl, hO, hb⟩; have HO4 := Aside.mk hO; have HI4 := Aside.mk (below_self HI3.out hb); have HB4 := Aside.mk hb; have hB := blk_later hb HB13.out; have f2 := (blk_cell hB 2).trans rfl; have f5 := (blk_cell hB 5).trans rfl; have g2 := blk_frozen hB 2; have g5 := blk_frozen hB 5; have HB14 := Aside.mk hB; have HB24 := Aside.mk (blk_later hb HB23.out); clear hO hb hB))
    all_goals
      go_wp2
      go_meet
      case rel => exact fhead_end HB14.out HB24.out HI4.out HO3.out (Nat.le_of_eq HS.out.symm) HB4.out rfl HO4.out (Nat.le_trans (Nat.le_of_eq HS.out.symm) HB3.out.size)
  case rest =>
    obtain ⟨A0', c0', A1', c1', b1, b2, hbel, hT, hO⟩ := hcut
    have HB1 := Aside.mk b1
    have HB2 := Aside.mk b2
    have HI := Aside.mk hbel
    have HT := Aside.mk hT
    have HO := Aside.mk hO
    have f5 : wc.cell? ⟨w.heap.size, 5, none⟩ = some (.slice A1' x.Kids.length c1') := (blk_cell b1 5).trans rfl
    clear hbel hT hO b1 b2
    go_step
    go_step
    go_cut [14] (fun v wc => FDone w x wc)
    case first =>
      rcases Kd.Row_of_Own HO.out with ⟨h0, rfl, _, rfl⟩ | ⟨g, rfl, _, hg, hF, hRow⟩
      · have HX := Aside.mk h0
        clear h0
        have hl : x.Kids.length = 0 := by rw [HX.out]; rfl
        rw [hl] at f5
        go_wp2
        refine wp_loop_rounds 1 ?_
        rw [rounds_succ]
        go_wp2
        go_meet
        case rel =>
          obtain ⟨A', c', he, hl', hC⟩ := Kd.Own_C HT.out
          injection he with e1 e2 e3
          subst e1 e3
          exact ⟨_, _, none, 0, HB1.out, HB2.out, HI.out, hC, hl', by rw [HX.out]; exact Kd.C_nil' _ _ _ _, by rw [HX.out]; exact Nat.le_refl _⟩
      · have HR := Aside.mk (floop_start HB1.out HB2.out HI.out HT.out hRow hg)
        have hn : x.Kids.length ≤ 9223372036854775807 := by have h1 := hRow.2.1; have h2 := hRow.2.2.1; simp only [maxLen] at h2; omega
        clear hRow hF HO HT HB1 HB2
        go_wp2
        go_loopw [16] (fun v16 wr => ∃ i : Nat, i ≤ x.Kids.length ∧ v16 = .int .i64 i ∧ FLoop w x A0' c0' g c1' i wr) (fun v16 _ => x.Kids.length - (intOf v16).toNat)
        case atStart => exact ⟨0, Nat.zero_le _, rfl, HR.out⟩
        case round =>
          obtain ⟨i, hi, rfl, hL⟩ := hrel
          have HL := Aside.mk hL
          have f5 : wr.cell? ⟨w.heap.size, 5, none⟩ = some (.slice (some ⟨g, 0, none⟩) x.Kids.length c1') := (blk_cell hL.1 5).trans rfl
          clear hL
          by_cases hlt : i < x.Kids.length
          · obtain ⟨cs, hr, hk⟩ := HL.out.2.2.2.2.1.get hlt
            obtain ⟨y, hy⟩ : ∃ y, x.Kids[i] = y := ⟨_, rfl⟩
            rw [hy] at hk
            have HY := Aside.mk hy
            have HK := Aside.mk hk
            obtain ⟨E0, e0, E1, e1, rfl, _⟩ := kFilter_open hk
            have l0 : wr.cell? ⟨g, i * 6, none⟩ = some _ := hr 0 _ rfl
            have l1 : wr.cell? ⟨g, i * 6 + 1, none⟩ = some _ := hr 1 _ rfl
            have l2 : wr.cell? ⟨g, i * 6 + 2, none⟩ = some _ := hr 2 _ rfl
            have l3 : wr.cell? ⟨g, i * 6 + 3, none⟩ = some _ := hr 3 _ rfl
            have l4 : wr.cell? ⟨g, i * 6 + 4, none⟩ = some _ := hr 4 _ rfl
            have l5 : wr.cell? ⟨g, i * 6 + 5, none⟩ = some _ := hr 5 _ rfl
            have HR := Aside.mk hr
            have HIH := fun W (I : Aside (Below wr.heap.size wr W)) => Aside.mk (IH.out y (by have h1 := kid_lt hlt; rw [hy] at h1; have := HX.out; omega) _ W (Kd.below (Kd.any hk) I.out))
            clear hk hr hy
            go_wp2_with fail
            generalize hV : wr.alloc _ = V
            obtain ⟨hz, hbV⟩ : V.heap[wr.heap.size]? = some (.cells #[.int .i64 y.Kind, .int .i64 y.Dim, .slice E0 y.Texts.length e0, .int .i64 y.Lo, .int .i64 y.Hi, .slice E1 y.Kids.length e1] 40 (0, 0)) ∧ Below wr.heap.size wr V := by
              rw [← hV]; exact ⟨blk_new _ _, below_alloc (Below.refl _ _) _⟩
            have HI0 : Aside (Below wr.heap.size wr V.drew) := ⟨hbV.drew⟩
            clear hV l0 l1 l2 l3 l4 l5 f5
            have z0 : V.cell? ⟨wr.heap.size, 0, none⟩ = some _ := (blk_cell hz 0).trans rfl
            have z1 : V.cell? ⟨wr.heap.size, 1, none⟩ = some _ := (blk_cell hz 1).trans rfl
            have z2 : V.cell? ⟨wr.heap.size, 2, none⟩ = some _ := (blk_cell hz 2).trans rfl
            have z3 : V.cell? ⟨wr.heap.size, 3, none⟩ = some _ := (blk_cell hz 3).trans rfl
            have z4 : V.cell? ⟨wr.heap.size, 4, none⟩ = some _ := (blk_cell hz 4).trans rfl
            have z5 : V.cell? ⟨wr.heap.size, 5, none⟩ = some _ := (blk_cell hz 5).trans rfl
            have f5 := (floop_cells HL.out hlt HR.out hbV).1
            clear hz hbV
            go_region_law (first | (go_simp; go_at_call 51; refine (HIH _ (by assumption)).out.mono ?_; rintro e w5 ⟨cs', rfl, hK5, hb5⟩; have HI5 := Aside.mk (below_self HI0.out hb5); have HK5 := Aside.mk (kFilter.mono (F' := New wr) (fun k hk => Nat.le_trans HI0.out.size hk) hK5); obtain ⟨f5, l0, l1, l2, l3, l4, l5, lf⟩ := floop_cells HL.out hlt HR.out HI5.out; obtain ⟨E2, e2, E3, e3, rfl, _⟩ := kFilter_open hK5; clear hK5 hb5))
            all_goals
              go_wp2
              go_roundw
              case rel => exact ⟨i + 1, by omega, by go_num, floop_step6 HL.out hlt HI5.out HY.out HK5.out⟩
              case measure => simp [intOf]; omega
          · have he : i = x.Kids.length := by omega
            subst he
            have HD := Aside.mk (floop_done HL.out)
            go_wp2
            go_meet
            case rel => exact HD.out
    case rest =>
      clear HC49 HC74 IH HX HB1 HB2 HI HT HO f5
      obtain ⟨A0, c0, A1, c1, b1, b2, hbel, hT, hTl, hK, hKl⟩ := hcut
      have HT := Aside.mk hT
      have HK := Aside.mk hK
      have HI := Aside.mk hbel
      have HL := Aside.mk (And.intro hTl hKl)
      have f0 := (blk_cell b1 0).trans rfl
      have f1 := (blk_cell b1 1).trans rfl
      have f2 := (blk_cell b1 2).trans rfl
      have f3 := (blk_cell b1 3).trans rfl
      have f4 := (blk_cell b1 4).trans rfl
      have f5 := (blk_cell b1 5).trans rfl
      have r0 := (blk_cell b2 0).trans rfl
      have r1 := (blk_cell b2 1).trans rfl
      have r2 := (blk_cell b2 2).trans rfl
      have r3 := (blk_cell b2 3).trans rfl
      have r4 := (blk_cell b2 4).trans rfl
      have r5 := (blk_cell b2 5).trans rfl
      have fz := fun i => blk_frozen b2 i
      clear hT hTl hK hKl hbel b1 b2
      go_wp2
      refine bodyPost_ret (v := .agg #[.int .i64 x.Kind, .int .i64 x.Dim, .slice A0 x.Texts.length c0, .int .i64 x.Lo, .int .i64 x.Hi, .slice A1 x.Kids.length c1]) (by simp [results, Try.results51, go_sem, r0, r1, r2, r3, r4, r5]) rfl
        ⟨[_, _, _, _, _, _], rfl, kFilter_mk _ _ x HQ.out.1 HQ.out.2.1 ⟨HL.out.1, HQ.out.2.2.2.2.1, ?_⟩ HQ.out.2.2.1 HQ.out.2.2.2.1 ⟨HL.out.2, HQ.out.2.2.2.2.2, ?_⟩, ?_⟩
      · refine Kd.C_mono (F := fun k => w.heap.size + 2 ≤ k) (fun k hk => by simp only [New]; omega) ?_
        repeat refine C_set ?_ (fun k hk => ?_)
        all_goals first | exact HT.out | (show k ≠ _; simp only; omega)
      · refine Kd.C_mono (F := fun k => w.heap.size + 2 ≤ k) (fun k hk => by simp only [New]; omega) ?_
        repeat refine C_set ?_ (fun k hk => ?_)
        all_goals first | exact HK.out | (show k ≠ _; simp only; omega)
      · repeat refine Below.setCell ?_ (by show w.heap.size ≤ _; simp only; omega) _
        exact HI.out
theorem filter_own (x : Filter) (cs : List Value) (w : World) (h : kFilter.K w Any x cs) : Calls Try.prog 51 #[.agg cs.toArray] w (FPost x w) := filter_any _ x (Nat.le_refl _) cs w h
end Go.Proofs.Ytjpeaeklhcnpnaa.K
