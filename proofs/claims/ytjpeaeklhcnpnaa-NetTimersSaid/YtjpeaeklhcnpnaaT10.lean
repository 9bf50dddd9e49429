/- The reference's rows of timers in memory: its Stop and Set by contracts. No condition but that the timers are few. -/
import Derived.Test.YtjpeaeklhcnpnaaT9
import Derived.Test.YtjpeaeklhcnpnaaR1
namespace Go.Proofs.Ytjpeaeklhcnpnaa.K
open Go.RowKit
set_option linter.unusedVariables false
set_option linter.unusedSimpArgs false
/-- A timer: its id, its time. -/
def kTim : Kd (Int × Int) := Kd.pair (Kd.int .u64) (Kd.int .i64)
theorem kTim_open {w : World} {F : Nat → Prop} {x : Int × Int} {cs : List Value} (h : kTim.K w F x cs) : cs = [.int .u64 x.1, .int .i64 x.2] ∧ (Lit.int .u64 x.1).wf = true ∧ (Lit.int .i64 x.2).wf = true := by
  obtain ⟨c1, c2, rfl, ⟨rfl, h1⟩, ⟨rfl, h2⟩⟩ := h
  exact ⟨rfl, h1, h2⟩
theorem kTim_mk (w : World) (F : Nat → Prop) {a b : Int} (h1 : (Lit.int .u64 a).wf = true) (h2 : (Lit.int .i64 b).wf = true) : kTim.K w F (a, b) [.int .u64 a, .int .i64 b] := ⟨[.int .u64 a], [.int .i64 b], rfl, ⟨rfl, h1⟩, ⟨rfl, h2⟩⟩
/-- The reference's timers: block b holds the row. -/
def RTimAt (w : World) (F : Nat → Prop) (b : Nat) (L : List (Int × Int)) : Prop :=
  ∃ A c, w.heap[b]? = some (.cells #[.slice A L.length c] 86 (0, 0)) ∧ kTim.Own 113 w F 0 (.slice A L.length c) L ∧ ¬ F b
theorem RTimAt.lt {w : World} {F : Nat → Prop} {b : Nat} {L : List (Int × Int)} (h : RTimAt w F b L) : b < w.heap.size := by
  obtain ⟨A, c, h1, _⟩ := h
  exact blk_lt h1
theorem RTimAt.mono {w : World} {F F' : Nat → Prop} {b : Nat} {L : List (Int × Int)} (h : RTimAt w F b L) (hF : ∀ k, F k → F' k) (hb : ¬ F' b) : RTimAt w F' b L := by
  obtain ⟨A, c, h1, h2, h3⟩ := h
  exact ⟨A, c, h1, Kd.Own_mono h2 hF, hb⟩
theorem RTimAt.chg {w w' : World} {F G : Nat → Prop} {b : Nat} {L : List (Int × Int)} (h : RTimAt w F b L) (hc : Chg w w' G) (hF : ∀ k, F k → ¬ G k) (hb : ¬ G b) : RTimAt w' F b L := by
  obtain ⟨A, c, h1, h2, h3⟩ := h
  exact ⟨A, c, hc.keeps h1 hb, Kd.Own_move (fun k hk hl => hc.block k hl (hF k hk)) h2, h3⟩
theorem RTimAt.known {w : World} {F : Nat → Prop} {b : Nat} {L : List (Int × Int)} (h : RTimAt w F b L) : RTimAt w (fun k => F k ∧ k < w.heap.size) b L := by
  obtain ⟨A, c, h1, h2, h3⟩ := h
  exact ⟨A, c, h1, Kd.Own_lt h2, fun hk => h3 hk.1⟩
theorem und84 : Try.prog.underlying 84 = some (.slice 113) := by kernel_rfl
theorem info113 : (Try.prog.info? 113).map (fun i => (i.zero, i.size, i.bytes)) = some (some (.agg #[.int .u64 0, .int .i64 0]), kTim.sz, 16) := by kernel_rfl
/-- What an append of a timer wants. -/
structure TPre (w : World) (F : Nat → Prop) (v : Value) (L : List (Int × Int)) (y : Int × Int) : Prop where
  own : kTim.Own 113 (w.alloc (.cells #[.int .u64 y.1, .int .i64 y.2] 113)) (fun k => F k ∨ w.heap.size ≤ k) 0 v L
  row : kTim.C (w.alloc (.cells #[.int .u64 y.1, .int .i64 y.2] 113)) (fun k => w.heap.size ≤ k) (some ⟨w.heap.size, 0, none⟩) 1 [y]
  far : ∀ k, w.heap.size ≤ k → k < (w.alloc (.cells #[.int .u64 y.1, .int .i64 y.2] 113)).heap.size → (F k ∨ w.heap.size ≤ k) ∧ some k ≠ v.ownBlock
  fresh : ∀ k, (w.alloc (.cells #[.int .u64 y.1, .int .i64 y.2] 113)).heap.size ≤ k → (F k ∨ w.heap.size ≤ k)
  rowF : ∀ k, v.ownBlock = some k → F k ∧ k < w.heap.size
theorem tPre {w : World} {F : Nat → Prop} {v : Value} {L : List (Int × Int)} (y : Int × Int) (h2 : kTim.Own 113 w F 0 v L) (h3 : (Lit.int .u64 y.1).wf = true) (h4 : (Lit.int .i64 y.2).wf = true) : TPre w F v L y := by
  have hO : ∀ k, v.ownBlock = some k → F k ∧ k < w.heap.size := fun k hk => ⟨h2.1 k hk, by
    obtain ⟨_, inner, ho, _⟩ := h2
    exact (Kd.own_base ho k hk).2⟩
  have hsz : (w.alloc (.cells #[.int .u64 y.1, .int .i64 y.2] 113)).heap.size = w.heap.size + 1 := by simp
  refine ⟨?_, ?_, fun k hk hl => ⟨.inr hk, fun he => by have := hO k he.symm; omega⟩, fun k hk => .inr (by rw [hsz] at hk; omega), hO⟩
  · exact Kd.Own_mono (Kd.Own_move (fun k hk hl => Below.heap_alloc _ _ _ hl) h2) (fun k hk => .inl hk)
  · refine ⟨rfl, by omega, fun _ => ⟨_, rfl, Nat.le_refl _, by rw [hsz]; show w.heap.size < _; omega, fun j p hj => ?_⟩⟩
    have h0 : j = 0 := by
      have := (List.getElem?_eq_some_iff.1 hj).1
      simp at this
      exact this
    subst h0
    obtain rfl : y = p := by simpa using hj
    refine ⟨_, kTim_mk _ _ h3 h4, fun i u hu => ?_⟩
    rw [Addr.add_mid, blk_cell (blk_new _ _), Nat.zero_mul, Nat.zero_add, Nat.zero_add]
    simpa using hu
/-- Whether an id is there; the others. -/
def hasId (L : List (Int × Int)) (id : Int) : Bool := L.any fun x => x.1 == id
def flt (L : List (Int × Int)) (id : Int) : List (Int × Int) := L.filter fun x => !(x.1 == id)
theorem hasId_step {L : List (Int × Int)} {id : Int} {i : Nat} (hi : i < L.length) : hasId (L.take (i + 1)) id = (hasId (L.take i) id || (L[i].1 == id)) := by
  unfold hasId
  rw [List.take_add_one, List.getElem?_eq_getElem hi, List.any_append]
  simp
theorem flt_step {L : List (Int × Int)} {id : Int} {i : Nat} (hi : i < L.length) : flt (L.take (i + 1)) id = flt (L.take i) id ++ (if L[i].1 = id then [] else [L[i]]) := by
  unfold flt
  rw [List.take_add_one, List.getElem?_eq_getElem hi, List.filter_append]
  by_cases h : L[i].1 = id <;> simp [h]
theorem flt_len (L : List (Int × Int)) (id : Int) : (flt L id).length ≤ L.length := List.length_filter_le _ _
/-- Between two rounds of Stop's loop. -/
structure StLoop (w : World) (L : List (Int × Int)) (id : Int) (i : Nat) (v5 : Value) (wr : World) : Prop where
  own : kTim.Own 113 wr (fun k => w.heap.size ≤ k) 0 v5 (flt (L.take i) id)
  below : Below w.heap.size w wr
theorem stLoop_skip {w wr : World} {L : List (Int × Int)} {id : Int} {i : Nat} {v5 : Value} (h : StLoop w L id i v5 wr) (hi : i < L.length) (he : L[i].1 = id) : StLoop w L id (i + 1) v5 wr := by
  refine ⟨?_, h.below⟩
  rw [flt_step hi, if_pos he, List.append_nil]
  exact h.own
theorem stLoop_add {w wr w7 : World} {L : List (Int × Int)} {id : Int} {i : Nat} {v5 v1 : Value} {y : Int × Int} (h : StLoop w L id i v5 wr) (hi : i < L.length) (he : L[i].1 ≠ id) (hy : L[i] = y) (hP : TPre wr (fun k => w.heap.size ≤ k) v5 (flt (L.take i) id) y)
    (hO : kTim.Own 113 w7 (fun k => w.heap.size ≤ k ∨ wr.heap.size ≤ k) 0 v1 (flt (L.take i) id ++ [y])) (hg : (wr.alloc (.cells #[.int .u64 y.1, .int .i64 y.2] 113)).grownBy w7 v5.ownBlock) : StLoop w L id (i + 1) v1 w7 := by
  have hs := h.below.size
  refine ⟨?_, ?_⟩
  · rw [flt_step hi, if_neg he, hy]
    exact Kd.Own_mono hO (fun k hk => by rcases hk with hk | hk <;> omega)
  · refine (h.below.alloc hs _).grown hg ?_ (fun k e => (hP.rowF k e).1)
    rw [World.size_alloc]
    omega
end Go.Proofs.Ytjpeaeklhcnpnaa.K
