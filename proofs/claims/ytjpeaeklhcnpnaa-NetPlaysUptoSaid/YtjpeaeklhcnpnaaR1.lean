/- The reference's rows of what was seen, in memory: its Fresh by a contract. No condition but small numbers. -/
import Derived.Test.YtjpeaeklhcnpnaaA2
namespace Go.Proofs.Ytjpeaeklhcnpnaa.K
open Go.RowKit
set_option linter.unusedVariables false
set_option linter.unusedSimpArgs false
section
variable {P : Program} {ops : Array Oper} {rest : List Oper} {o : Oper} {a : Act} {w : World} {Q : Exit → Act → World → Prop}
theorem wpList_append_row {α : Type} (d : Kd α) (base : Nat) (hg : o.guard = none) (s x : Operand) (t e : TypeId) (z : Value) (bytes : Nat)
    (ho : o.op = .call { callee := .builtin .append, args := #[s, x], argTypes := #[t, t] })
    (ht : P.underlying t = some (.slice e)) (hinfo : (P.info? e).map (fun i => (i.zero, i.size, i.bytes)) = some (some z, d.sz, bytes)) (hz : z.cells.size = d.sz) (hs0 : 0 < d.sz) (hb0 : 0 < bytes)
    (v : Value) (xs ys : List α) (ad : Addr) (m c : Nat) (F Fr : Nat → Prop) (hs : a.eval s = v) (hx : a.eval x = .slice (some ad) m c)
    (HO : d.Own e w F base v xs) (HR : d.C w Fr (some ad) m ys) (hFp : ∀ k, Fr k → k < w.heap.size → F k ∧ some k ≠ v.ownBlock) (hfresh : ∀ k, w.heap.size ≤ k → F k)
    (hbase : base ≤ w.heap.size) (hl : (xs.length + m) * bytes ≤ 140737488355328)
    (h : ∀ v1 w1, d.Own e w1 F base v1 (xs ++ ys) → w.grownBy w1 v.ownBlock → (v1.ownBlock = v.ownBlock ∨ ∃ b, v1.ownBlock = some b ∧ w.heap.size ≤ b) → wpList P ops Q rest (a.put o.dst v1) w1) : wpList P ops Q (o :: rest) a w :=
  wpList_plain hg fun K hK => wp_append_row d base s x t e z bytes ho ht hinfo hz hs0 hb0 v xs ys ad m c F Fr hs hx HO HR hFp hfresh hbase hl fun v1 w1 h1 h2 h3 => hK _ _ (h v1 w1 h1 h2 h3)
end
def kOne : Kd (Int × Int) := Kd.pair (Kd.int .i64) (Kd.int .u64)
theorem kOne_open {w : World} {F : Nat → Prop} {x : Int × Int} {cs : List Value} (h : kOne.K w F x cs) : cs = [.int .i64 x.1, .int .u64 x.2] ∧ (Lit.int .i64 x.1).wf = true ∧ (Lit.int .u64 x.2).wf = true := by
  obtain ⟨c1, c2, rfl, ⟨rfl, h1⟩, ⟨rfl, h2⟩⟩ := h
  exact ⟨rfl, h1, h2⟩
theorem kOne_mk (w : World) (F : Nat → Prop) {a b : Int} (h1 : (Lit.int .i64 a).wf = true) (h2 : (Lit.int .u64 b).wf = true) : kOne.K w F (a, b) [.int .i64 a, .int .u64 b] := ⟨[.int .i64 a], [.int .u64 b], rfl, ⟨rfl, h1⟩, ⟨rfl, h2⟩⟩
def RefAt (w : World) (F : Nat → Prop) (b : Nat) (most : Int) (L : List (Int × Int)) : Prop :=
  ∃ A c, w.heap[b]? = some (.cells #[.int .i64 most, .slice A L.length c] 72 (0, 0)) ∧ kOne.Own 101 w F 0 (.slice A L.length c) L ∧ ¬ F b
def cnt (L : List (Int × Int)) (fr : Int) : Nat := (L.filter fun x => decide (x.1 = fr)).length
def RefStep (most : Nat) (L : List (Int × Int)) (fr id : Int) (r : Bool) (L' : List (Int × Int)) : Prop :=
  ((fr, id) ∈ L ∧ r = false ∧ L' = L) ∨
  ((fr, id) ∉ L ∧ cnt L fr = most ∧ ∃ (j : Nat) (hj : j < L.length), L[j].1 = fr ∧ (∀ x ∈ L, x.1 = fr → L[j].2 ≤ x.2) ∧ ((id < L[j].2 ∧ r = false ∧ L' = L) ∨ (¬ id < L[j].2 ∧ r = true ∧ L' = L.set j (fr, id)))) ∨
  ((fr, id) ∉ L ∧ cnt L fr ≠ most ∧ r = true ∧ L' = L ++ [(fr, id)])
def Scan (L : List (Int × Int)) (fr id : Int) (i n : Nat) (least : Int) : Prop :=
  (∀ k (hk : k < L.length), k < i → L[k] ≠ (fr, id)) ∧ n = cnt (L.take i) fr ∧
  ((least = -1 ∧ n = 0) ∨ ∃ (j : Nat) (hj : j < L.length), least = j ∧ j < i ∧ L[j].1 = fr ∧ ∀ k (hk : k < L.length), k < i → L[k].1 = fr → L[j].2 ≤ L[k].2)
theorem cnt_step {L : List (Int × Int)} {fr : Int} {i : Nat} (hi : i < L.length) : cnt (L.take (i + 1)) fr = cnt (L.take i) fr + (if L[i].1 = fr then 1 else 0) := by
  unfold cnt
  rw [List.take_add_one, List.getElem?_eq_getElem hi, List.filter_append, List.length_append]
  by_cases h : L[i].1 = fr <;> simp [h]
theorem scan_start (L : List (Int × Int)) (fr id : Int) : Scan L fr id 0 0 (-1) := ⟨fun k hk h => by omega, by simp [cnt], .inl ⟨rfl, rfl⟩⟩
theorem scan_skip {L : List (Int × Int)} {fr id : Int} {i n : Nat} {least : Int} (h : Scan L fr id i n least) (hi : i < L.length) (hne : L[i].1 ≠ fr) : Scan L fr id (i + 1) n least := by
  obtain ⟨h1, h2, h3⟩ := h
  refine ⟨fun k hk hki => ?_, by rw [cnt_step hi, if_neg hne, h2]; rfl, h3.imp (fun h => h) fun ⟨j, hj, e, hji, ha, hb⟩ => ⟨j, hj, e, by omega, ha, fun k hk hki hf => ?_⟩⟩
  · by_cases e : k = i
    · subst e; intro e2; exact hne (by rw [e2])
    · exact h1 k hk (by omega)
  · by_cases e : k = i
    · subst e; exact absurd hf hne
    · exact hb k hk (by omega) hf
theorem scan_first {L : List (Int × Int)} {fr id : Int} {i n : Nat} (h : Scan L fr id i n (-1)) (hi : i < L.length) (he : L[i].1 = fr) (hne : L[i].2 ≠ id) : Scan L fr id (i + 1) (n + 1) i := by
  obtain ⟨h1, h2, h3⟩ := h
  have hn : n = 0 := by
    rcases h3 with h | ⟨j, _, e, _⟩
    · exact h.2
    · omega
  refine ⟨fun k hk hki => ?_, by rw [cnt_step hi, if_pos he, h2], .inr ⟨i, hi, rfl, by omega, he, fun k hk hki hf => ?_⟩⟩
  · by_cases e : k = i
    · subst e; intro e2; exact hne (by rw [e2])
    · exact h1 k hk (by omega)
  · by_cases e : k = i
    · subst e; exact Int.le_refl _
    · exfalso
      rw [hn] at h2
      have : L[k] ∈ (L.take i).filter fun x => decide (x.1 = fr) := List.mem_filter.2 ⟨List.mem_iff_getElem.2 ⟨k, by rw [List.length_take]; omega, List.getElem_take⟩, by simpa using hf⟩
      have h0 := List.length_pos_of_mem this
      simp only [cnt] at h2
      omega
theorem scan_next {L : List (Int × Int)} {fr id : Int} {i n j : Nat} (h : Scan L fr id i n j) (hi : i < L.length) (hj : j < L.length) (he : L[i].1 = fr) (hne : L[i].2 ≠ id) : Scan L fr id (i + 1) (n + 1) (if L[i].2 < L[j].2 then (i : Int) else j) := by
  obtain ⟨h1, h2, h3⟩ := h
  obtain ⟨j', hj', e, hji, ha, hb⟩ := h3.resolve_left (fun h => by omega)
  have e' : j' = j := by omega
  subst e'
  refine ⟨fun k hk hki => ?_, by rw [cnt_step hi, if_pos he, h2], .inr ?_⟩
  · by_cases e : k = i
    · subst e; intro e2; exact hne (by rw [e2])
    · exact h1 k hk (by omega)
  · by_cases hlt : L[i].2 < L[j'].2
    · rw [if_pos hlt]
      refine ⟨i, hi, rfl, by omega, he, fun k hk hki hf => ?_⟩
      by_cases e : k = i
      · subst e; exact Int.le_refl _
      · have := hb k hk (by omega) hf; omega
    · rw [if_neg hlt]
      refine ⟨j', hj, rfl, by omega, ha, fun k hk hki hf => ?_⟩
      by_cases e : k = i
      · subst e; omega
      · exact hb k hk (by omega) hf
end Go.Proofs.Ytjpeaeklhcnpnaa.K
