/- The contract of filter.bare: no condition. -/
import Derived.Test.YtddjbhphhhdnfaaG1
namespace Go.Proofs.Ytddjbhphhhdnfaa.K
open Go.RowKit
set_option linter.unusedVariables false
set_option linter.unusedSimpArgs false

def bareF (x : Filter) : Filter :=
  if x.Kind = 5 ∨ x.Kind = 6 ∨ x.Kind = 7 then ⟨x.Kind, x.Dim, x.Texts, 0, 0, []⟩
  else if x.Kind = 8 then ⟨x.Kind, x.Dim, [], x.Lo, x.Hi, []⟩
  else ⟨x.Kind, 0, [], 0, 0, []⟩
/-- A new filter is returned. -/
def Gives (y : Filter) (w : World) (e : Ending) (w' : World) : Prop := ∃ cs, e = .returned (.agg cs.toArray) ∧ kFilter.K w' (New w) y cs ∧ Below w.heap.size w w'
theorem nilTexts (w : World) (F : Nat → Prop) : ([] : List ByteArray).length ≤ 0 ∧ ([] : List ByteArray).length * 16 ≤ 140737488355328 ∧ Kd.string.C w F none ([] : List ByteArray).length [] := ⟨Nat.le_refl _, by simp, Kd.C_nil' _ _ _ _⟩
theorem nilKids (w : World) (F : Nat → Prop) : ([] : List Filter).length ≤ 0 ∧ ([] : List Filter).length * 80 ≤ 140737488355328 ∧ kFilter.C w F none ([] : List Filter).length [] := ⟨Nat.le_refl _, by simp, Kd.C_nil' _ _ _ _⟩
theorem bare_leaf {w w' : World} (k d l h : Int) (hk : (Lit.int .i64 k).wf = true) (hd : (Lit.int .i64 d).wf = true) (hl : (Lit.int .i64 l).wf = true) (hh : (Lit.int .i64 h).wf = true) : kFilter.K w' (New w) ⟨k, d, [], l, h, []⟩ [.int .i64 k, .int .i64 d, .slice none 0 0, .int .i64 l, .int .i64 h, .slice none 0 0] :=
  kFilter_mk w' (New w) ⟨k, d, [], l, h, []⟩ hk hd (nilTexts _ _) hl hh (nilKids _ _)

set_option maxHeartbeats 4000000 in
theorem bare_other (x : Filter) (cs : List Value) (w : World) (h : kFilter.K w Any x cs) (k5 : ¬ x.Kind = 5) (k6 : ¬ x.Kind = 6) (k7 : ¬ x.Kind = 7) (k8 : ¬ x.Kind = 8) :
    Calls Try.prog 31 #[.agg cs.toArray] w (Gives (bareF x) w) := by
  obtain ⟨A0, c0, A1, c1, rfl, q0, q1, q2, q3, q4, q5⟩ := kFilter_open h
  have HR := Aside.mk (show bareF x = ⟨x.Kind, 0, [], 0, 0, []⟩ by simp [bareF, k5, k6, k7, k8])
  have HQ := Aside.mk q0
  have k5b : (x.Kind == 5) = false := by simpa using k5
  have k6b : (x.Kind == 6) = false := by simpa using k6
  have k7b : (x.Kind == 7) = false := by simpa using k7
  have k8b : (x.Kind == 8) = false := by simpa using k8
  rw [HR.out]
  clear h q0 q1 q2 q3 q4 q5
  go_enter Try.func31, Try.ntmps31
  go_wp2
  exact bodyPost_ret (v := .agg #[.int .i64 x.Kind, .int .i64 0, .slice none 0 0, .int .i64 0, .int .i64 0, .slice none 0 0]) (by simp [results, Try.results31, go_sem]) rfl ⟨[_, _, _, _, _, _], rfl, bare_leaf _ _ _ _ HQ.out rfl rfl rfl, below_alloc (below_alloc (below_alloc (Below.refl _ w) _) _) _⟩
set_option maxHeartbeats 4000000 in
theorem bare_8 (x : Filter) (cs : List Value) (w : World) (h : kFilter.K w Any x cs) (k8 : x.Kind = 8) :
    Calls Try.prog 31 #[.agg cs.toArray] w (Gives (bareF x) w) := by
  obtain ⟨A0, c0, A1, c1, rfl, q0, q1, q2, q3, q4, q5⟩ := kFilter_open h
  have HR := Aside.mk (show bareF x = ⟨x.Kind, x.Dim, [], x.Lo, x.Hi, []⟩ by simp [bareF, k8])
  rw [HR.out]
  have HQ := Aside.mk (And.intro q1 (And.intro q3 q4))
  rw [k8]
  clear h q0 q1 q2 q3 q4 q5
  go_enter Try.func31, Try.ntmps31
  go_wp2_with fail
  go_region
  go_wp2
  exact bodyPost_ret (v := .agg #[.int .i64 8, .int .i64 x.Dim, .slice none 0 0, .int .i64 x.Lo, .int .i64 x.Hi, .slice none 0 0]) (by simp [results, Try.results31, go_sem]) rfl ⟨[_, _, _, _, _, _], rfl, bare_leaf _ _ _ _ rfl HQ.out.1 HQ.out.2.1 HQ.out.2.2, below_alloc (below_alloc (below_alloc (Below.refl _ w) _) _).drew _⟩
theorem three_known {w W : World} {o1 o2 o3 : Obj} (hW : ((w.alloc o1).alloc o2).alloc o3 = W) : W.heap[w.heap.size]? = some o1 ∧ W.heap[w.heap.size + 1]? = some o2 ∧ W.heap[w.heap.size + 1 + 1]? = some o3 ∧ Below w.heap.size w W := by
  subst hW
  have h2 := blk_new (w.alloc o1) o2
  have h3 := blk_new ((w.alloc o1).alloc o2) o3
  simp only [World.alloc, Array.size_push] at h2 h3 ⊢
  refine ⟨?_, ?_, h3, below_alloc (below_alloc (below_alloc (Below.refl _ w) _) _) _⟩
  · exact blk_alloc (blk_alloc (blk_new w o1) o2) o3
  · exact blk_alloc (w := (w.alloc o1).alloc o2) h2 o3
theorem set_other {w : World} {a : Addr} {v : Value} {k : Nat} (h : k ≠ a.block) : (w.setCell a v).heap[k]? = w.heap[k]? := by
  simp [World.setCell, Array.getElem?_modify, h, Ne.symm h]
theorem C_set {α : Type} {d : Kd α} {w : World} {F : Nat → Prop} {A : Option Addr} {n : Nat} {xs : List α} {a : Addr} {v : Value} (h : d.C w F A n xs) (hne : ∀ k, F k → k ≠ a.block) : d.C (w.setCell a v) F A n xs := Kd.C_move (fun k hk _ => set_other (hne k hk)) h
theorem below_set {B : Nat} {w w1 : World} (h : Below B w w1) {a : Addr} {v : Value} (ha : B ≤ a.block) : Below B w (w1.setCell a v) := h.setCell ha v
theorem set_size (w : World) (a : Addr) (v : Value) : (w.setCell a v).heap.size = w.heap.size := by simp [World.setCell]

set_option maxHeartbeats 8000000 in
theorem bare_567 (x : Filter) (cs : List Value) (w : World) (h : kFilter.K w Any x cs) (k : x.Kind = 5 ∨ x.Kind = 6 ∨ x.Kind = 7) :
    Calls Try.prog 31 #[.agg cs.toArray] w (Gives (bareF x) w) := by
  obtain ⟨A0, c0, A1, c1, rfl, q0, q1, q2, q3, q4, q5⟩ := kFilter_open h
  have HR := Aside.mk (show bareF x = ⟨x.Kind, x.Dim, x.Texts, 0, 0, []⟩ by simp [bareF, k])
  rw [HR.out]
  have HQ := Aside.mk (And.intro q0 q1)
  have hcl := fun W (hb : Below w.heap.size w W) => clone_any x.Texts A0 c0 W (Kd.C_below q2.2.2 hb) q2.2.1
  have HC := Aside.mk hcl
  have HL := Aside.mk q2.2.1
  clear h q0 q1 q2 q3 q4 q5 hcl
  rcases k with k | k | k
  all_goals
    have HK := Aside.mk k
    rw [k]
    go_enter Try.func31, Try.ntmps31
    go_wp2_with fail
    clear k
    generalize hW : ((w.alloc _).alloc _).alloc _ = W
    obtain ⟨b1, b2, b3, hbel⟩ := three_known hW
    refine (HC.out W hbel).mono ?_
    rintro e w2 ⟨A', c', rfl, hc', hC, hb⟩
    have HB := Aside.mk (below_self hbel hb)
    have b1 := blk_below b1 hb
    have b2 := blk_below b2 hb
    have b3' := blk_below b3 hb
    have hlt1 := blk_lt b1
    have hlt2 := blk_lt b2
    have hlt3 := blk_lt b3
    have hlt4 := blk_lt b3'
    have i0 := (blk_cell b1 0).trans rfl
    have i1 := (blk_cell b1 1).trans rfl
    have i2 := (blk_cell b1 2).trans rfl
    have i3 := (blk_cell b1 3).trans rfl
    have i4 := (blk_cell b1 4).trans rfl
    have i5 := (blk_cell b1 5).trans rfl
    have r0 := (blk_cell b2 0).trans rfl
    have r1 := (blk_cell b2 1).trans rfl
    have r2 := (blk_cell b2 2).trans rfl
    have r3 := (blk_cell b2 3).trans rfl
    have r4 := (blk_cell b2 4).trans rfl
    have r5 := (blk_cell b2 5).trans rfl
    have j0 := (blk_cell b3' 0).trans rfl
    have j1 := (blk_cell b3' 1).trans rfl
    have j2 := (blk_cell b3' 2).trans rfl
    have j3 := (blk_cell b3' 3).trans rfl
    have j4 := (blk_cell b3' 4).trans rfl
    have j5 := (blk_cell b3' 5).trans rfl
    have fz := fun i => blk_frozen b3' i
    have fy := fun i => blk_frozen b2 i
    have HC2 := Aside.mk (Kd.C_mono (F' := fun k => w.heap.size + 1 + 1 < k) (fun k hk => Nat.lt_of_lt_of_le hlt3 hk) hC)
    clear hC hb hbel hW b1 b2 b3 b3'
    go_wp2
    refine bodyPost_ret (v := .agg #[.int .i64 _, .int .i64 x.Dim, .slice A' x.Texts.length c', .int .i64 0, .int .i64 0, .slice none 0 0]) (by simp [results, Try.results31, go_sem, r0, r1, r2, r3, r4, r5, j0, j1, j2, j3, j4, j5]) rfl ⟨[_, _, _, _, _, _], rfl, kFilter_mk _ _ ⟨_, x.Dim, x.Texts, 0, 0, []⟩ rfl HQ.out.2 ⟨hc', HL.out, ?_⟩ rfl rfl (nilKids _ _), ?_⟩
    · refine Kd.C_mono (F := fun k => w.heap.size + 1 + 1 < k) (fun k hk => ?_) ?_
      · simp only [New]; omega
      · repeat refine C_set ?_ (fun k hk => ?_)
        all_goals first | exact HC2.out | (show k ≠ _; simp only; omega)
    · repeat refine below_set ?_ (by show w.heap.size ≤ _; simp only; omega)
      exact HB.out
theorem bare_any (x : Filter) (cs : List Value) (w : World) (h : kFilter.K w Any x cs) : Calls Try.prog 31 #[.agg cs.toArray] w (Gives (bareF x) w) := by
  by_cases k : x.Kind = 5 ∨ x.Kind = 6 ∨ x.Kind = 7
  · exact bare_567 x cs w h k
  · by_cases k8 : x.Kind = 8
    · exact bare_8 x cs w h k8
    · exact bare_other x cs w h (fun e => k (.inl e)) (fun e => k (.inr (.inl e))) (fun e => k (.inr (.inr e))) k8
end Go.Proofs.Ytddjbhphhhdnfaa.K
