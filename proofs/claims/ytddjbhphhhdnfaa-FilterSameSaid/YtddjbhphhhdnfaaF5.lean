/- The contracts of filter.Check, filter.Size: no condition. -/
import Derived.Test.YtddjbhphhhdnfaaF3
import Derived.Test.YtddjbhphhhdnfaaF4
namespace Go.Proofs.Ytddjbhphhhdnfaa.K
open Go.RowKit
set_option linter.unusedVariables false
set_option linter.unusedSimpArgs false

def fineC (dims meas : Int) (x : Filter) (d : Int) : Bool := decide (d ≤ 20) && partOf dims meas x
/-- May the filter be? -/
def okF (dims meas : Int) (x : Filter) : Bool := decide (size x ≤ 200) && allF (fineC dims meas) x 1

theorem fineC_any (dims meas : Int) (w0 : World) (S : Nat) (hS : w0.heap[S]? = some (.cells #[.int .i64 dims, .int .i64 meas] 33 (0, 0))) : FineAt 20 #[.pointer (some ⟨S, 0, none⟩)] (fineC dims meas) w0 := by
  intro x cs d W hd0 hd1 hK hB
  have hSW : W.heap[S]? = some (.cells #[.int .i64 dims, .int .i64 meas] 33 (0, 0)) := blk_below hS hB
  have HM := fun W' (h : Below W.heap.size W W') => Aside.mk (may_any dims meas x cs W' (Kd.below (Kd.below hK hB) h))
  have hs0 := (blk_cell hSW 0).trans rfl
  have hs1 := (blk_cell hSW 1).trans rfl
  have hSl := blk_lt hSW
  obtain ⟨A0, c0, A1, c1, rfl, q0, q1, q2, q3, q4, q5⟩ := kFilter_open hK
  clear hK q0 q1 q2 q3 q4 q5 hS hB
  have HB := Aside.mk (fun o => below_alloc (Below.refl _ W) o)
  by_cases h : d ≤ 20
  · have HR := Aside.mk (show partOf dims meas x = fineC dims meas x d by simp [fineC, h])
    go_enter Try.func20, Try.ntmps20
    go_wp2_with fail
    refine (HM _ (HB.out _)).out.mono ?_
    rintro e w2 ⟨rfl, hb2⟩
    go_wp2
    go_ret
    exact ⟨ret_bool HR.out, below_self (HB.out _) hb2⟩
  · have HR := Aside.mk (show false = fineC dims meas x d by simp [fineC, h])
    have hb : decide (d ≤ 20) = false := by simpa using h
    go_enter Try.func20, Try.ntmps20
    go_wp2
    go_ret
    exact ⟨ret_bool HR.out, HB.out _⟩

def errOf (b : Bool) : Int := if b then 0 else 1
theorem okF_iff (dims meas : Int) (x : Filter) (b : Bool) (l : Int) (h : Cnt (fineC dims meas) x 1 200 b l) : b = okF dims meas x := by
  obtain ⟨h1, _⟩ := h
  unfold okF
  rw [Bool.eq_iff_iff, h1, Bool.and_eq_true, decide_eq_true_eq]
  constructor
  · rintro ⟨a, b⟩; exact ⟨by omega, b⟩
  · rintro ⟨a, b⟩; exact ⟨by omega, b⟩

set_option maxHeartbeats 1000000 in
theorem check_any (dims meas : Int) (x : Filter) (cs : List Value) (w : World) (h : kFilter.K w Any x cs) :
    Calls Try.prog 10 #[.agg #[.int .i64 dims, .int .i64 meas], .agg cs.toArray] w fun e w' => e = .returned (.int .i64 (errOf (okF dims meas x))) ∧ Below w.heap.size w w' := by
  have HC := Aside.mk (fun o1 o2 o3 (h1 : (w.alloc o1).heap[w.heap.size]? = some (.cells #[.int .i64 dims, .int .i64 meas] 33 (0, 0))) (h3 : (((w.alloc o1).alloc o2).alloc o3).heap[w.heap.size + 1 + 1]? = some (.cells #[.int .i64 200] 3 (0, 0))) =>
    count_any 20 #[.pointer (some ⟨w.heap.size, 0, none⟩)] (enters_of Try.func20 (by kernel_rfl) rfl) (fineC dims meas) ((w.alloc o1).alloc o2) (w.heap.size + 1 + 1) (by simp) (fineC_any dims meas _ w.heap.size (blk_alloc h1 o2)) _ x (Nat.le_refl _) 1 200 cs (((w.alloc o1).alloc o2).alloc o3) (by omega) (by omega) (by omega)
      (Kd.below (Kd.below h (below_alloc (Below.refl _ _) o1)) (below_alloc (Below.refl _ _) o2)) (below_alloc (Below.refl _ _) o3) h3)
  obtain ⟨A0, c0, A1, c1, rfl, q0, q1, q2, q3, q4, q5⟩ := kFilter_open h
  clear h q0 q1 q2 q3 q4 q5
  go_enter Try.func10, Try.ntmps10
  go_wp2_with fail
  refine (HC.out _ _ _ (blk_new _ _) (by have := blk_new ((w.alloc (.cells #[.int .i64 dims, .int .i64 meas] 33 (0, 0))).alloc (.cells #[.int .i64 x.Kind, .int .i64 x.Dim, .slice A0 x.Texts.length c0, .int .i64 x.Lo, .int .i64 x.Hi, .slice A1 x.Kids.length c1] 25 (0, 0))) (.cells #[.int .i64 200] 3 (0, 0)); simpa using this)).mono ?_
  rintro e w2 ⟨b, l, rfl, hcnt, _, hB, _⟩
  have hb := okF_iff _ _ _ _ _ hcnt
  have HB := Aside.mk (below_self (below_alloc (below_alloc (Below.refl _ w) _) _) hB)
  have HE := Aside.mk hb
  clear hb hcnt hB HC
  cases b with
  | true =>
    go_wp2
    go_ret
    exact ⟨by rw [← HE.out]; rfl, HB.out⟩
  | false =>
    go_wp2
    go_ret
    exact ⟨by rw [← HE.out]; rfl, HB.out⟩

def fineS (_ : Filter) (_ : Int) : Bool := true
theorem fineS_any (w0 : World) : FineAt 33 #[] fineS w0 := by
  intro x cs d W hd0 hd1 hK hB
  obtain ⟨A0, c0, A1, c1, rfl, q0, q1, q2, q3, q4, q5⟩ := kFilter_open hK
  clear hK q0 q1 q2 q3 q4 q5 hB
  go_enter Try.func33, Try.ntmps33
  go_wp2
  go_ret
  exact ⟨rfl, below_alloc (Below.refl _ W) _⟩

/-- How many parts, at most 201. -/
def sizeF (x : Filter) : Int := if size x ≤ 200 then size x else 201
theorem allS (x : Filter) : ∀ d, allF fineS x d = true := by
  have key : ∀ n x, ht x ≤ n → ∀ d, allF fineS x d = true := by
    intro n
    induction n with
    | zero => intro x hx; rw [ht_eq] at hx; omega
    | succ n ih =>
      intro x hx d
      rw [allF_eq]
      simp only [fineS, Bool.true_and, List.all_eq_true]
      intro k hk
      exact ih k (by have := ht_kid hk; omega) (d + 1)
  exact key _ x (Nat.le_refl _)
theorem sizeF_of (x : Filter) (b : Bool) (l : Int) (h : Cnt fineS x 1 200 b l) : 200 - l = sizeF x := by
  obtain ⟨h1, h2, _, h4⟩ := h
  unfold sizeF
  cases b with
  | true =>
    have := (h1.1 rfl).1
    have h5 := h2 rfl
    rw [if_pos (by omega)]
    omega
  | false =>
    have h5 := h4 (fun _ _ => rfl) rfl
    have : ¬ size x ≤ 200 := fun hs => by
      have := h1.2 ⟨by omega, allS x 1⟩
      cases this
    rw [if_neg this]
    omega
theorem Cnt_le {x : Filter} {b : Bool} {l : Int} (h : Cnt fineS x 1 200 b l) : -1 ≤ l ∧ l ≤ 200 := by
  refine ⟨h.2.2.1, ?_⟩
  cases b with
  | true => have := h.2.1 rfl; omega
  | false => have := h.2.2.2 (fun _ _ => rfl) rfl; omega

set_option maxHeartbeats 1000000 in
theorem size_any (x : Filter) (cs : List Value) (w : World) (h : kFilter.K w Any x cs) :
    Calls Try.prog 15 #[.agg cs.toArray] w fun e w' => e = .returned (.int .i64 (sizeF x)) ∧ Below w.heap.size w w' := by
  have HC := Aside.mk (fun o1 o3 (h3 : ((w.alloc o1).alloc o3).heap[w.heap.size + 1]? = some (.cells #[.int .i64 200] 3 (0, 0))) =>
    count_any 33 #[] (enters_of Try.func33 (by kernel_rfl) rfl) fineS (w.alloc o1) (w.heap.size + 1) (by simp) (fineS_any _) _ x (Nat.le_refl _) 1 200 cs ((w.alloc o1).alloc o3) (by omega) (by omega) (by omega)
      (Kd.below h (below_alloc (Below.refl _ _) o1)) (below_alloc (Below.refl _ _) o3) h3)
  obtain ⟨A0, c0, A1, c1, rfl, q0, q1, q2, q3, q4, q5⟩ := kFilter_open h
  clear h q0 q1 q2 q3 q4 q5
  go_enter Try.func15, Try.ntmps15
  go_wp2_with fail
  refine (HC.out _ _ (by have := blk_new (w.alloc (.cells #[.int .i64 x.Kind, .int .i64 x.Dim, .slice A0 x.Texts.length c0, .int .i64 x.Lo, .int .i64 x.Hi, .slice A1 x.Kids.length c1] 25 (0, 0))) (.cells #[.int .i64 200] 3 (0, 0)); simpa using this)).mono ?_
  rintro e w2 ⟨b, l, rfl, hcnt, hL, hB, _⟩
  have HS := Aside.mk (sizeF_of _ _ _ hcnt)
  have HB := Aside.mk (below_self (below_alloc (Below.refl _ w) _) hB)
  obtain ⟨hl0, hl1⟩ := Cnt_le hcnt
  have hc := (blk_cell hL 0).trans rfl
  clear hcnt hB HC hL
  go_wp2
  go_ret
  exact ⟨ret_int HS.out, HB.out⟩
end Go.Proofs.Ytddjbhphhhdnfaa.K
