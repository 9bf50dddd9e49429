/- append of one element of several cells, and the making of a slice of one, at the operation. No condition. -/
import Derived.Test.YtjpeaeklhcnpnaaC7
namespace Go.Proofs.Ytjpeaeklhcnpnaa.K
open Go.RowKit
set_option linter.unusedVariables false
set_option linter.unusedSimpArgs false
theorem fold_lay (C : Array Value) : ∀ (l : List Value) (o : Nat) (A : Array Value), (l.zipIdx o).foldl (fun cs (x : Value × Nat) => cs.setIfInBounds (0 + x.2) x.1) A = (List.range l.length).foldl (fun cs j => cs.setIfInBounds (o + j) (l.getD j undef)) A := by
  intro l
  induction l with
  | nil => intro o A; rfl
  | cons v r ih =>
    intro o A
    simp only [List.zipIdx_cons, List.foldl_cons, List.length_cons, List.range_succ_eq_map, List.foldl_map, Nat.zero_add, Nat.add_zero, List.getD_cons_zero, List.getD_cons_succ]
    have := ih (o + 1) (A.setIfInBounds o v)
    simp only [Nat.zero_add] at this
    rw [this]
    congr 1
    funext cs j
    rw [Nat.add_assoc, Nat.add_comm 1 j]
theorem fold_range (l : List Value) : ∀ (n : Nat) (A : Array Value), A.size = l.length → n ≤ l.length → ((List.range n).foldl (fun cs j => cs.setIfInBounds (0 + j) (l.getD j undef)) A).size = l.length ∧ ∀ j, j < n → ((List.range n).foldl (fun cs j => cs.setIfInBounds (0 + j) (l.getD j undef)) A)[j]? = l[j]? := by
  intro n
  induction n with
  | zero => intro A hA _; exact ⟨hA, fun j hj => by omega⟩
  | succ n ih =>
    intro A hA hn
    obtain ⟨h1, h2⟩ := ih A hA (by omega)
    rw [List.range_succ, List.foldl_append]
    simp only [List.foldl_cons, List.foldl_nil, Nat.zero_add] at h1 h2 ⊢
    refine ⟨by rw [Array.size_setIfInBounds]; exact h1, fun j hj => ?_⟩
    by_cases hjn : n = j
    · subst hjn
      rw [Array.getElem?_setIfInBounds_self, if_pos (by omega), List.getD_eq_getElem?_getD, List.getElem?_eq_getElem (by omega)]
      rfl
    · rw [Array.getElem?_setIfInBounds_ne hjn]
      exact h2 j (by omega)
theorem fill_whole (C A : Array Value) (h : A.size = C.size) : C.zipIdx.foldl (fun cs (x : Value × Nat) => cs.setIfInBounds (0 + x.2) x.1) A = C := by
  have h1 := fold_lay C C.toList 0 A
  have h2 := fold_range C.toList C.toList.length A (by simpa using h) (Nat.le_refl _)
  rw [← Array.foldl_toList, Array.toList_zipIdx, h1]
  refine Array.ext_getElem? fun j => ?_
  by_cases hj : j < C.size
  · rw [h2.2 j (by simpa using hj), Array.getElem?_toList]
  · rw [Array.getElem?_eq_none (by rw [h2.1]; simpa using hj), Array.getElem?_eq_none (by omega)]
section
variable {P : Program} {o : Oper} {a : Act} {w : World} {K : Act → World → Prop} {Q : Exit → Act → World → Prop}
theorem wp_buildOne (t e : TypeId) (i : TypeInfo) (x : Operand) (ho : o.op = .buildSlice t 1 #[(0, x)]) (ht : P.underlying t = some (.slice e)) (hi : P.info? e = some i) (z : Value) (hz : ∀ w, (zeroValue e).run P w = .ok z w) (n : Nat) (hs : i.size = n) (hzs : z.cells.size = n) (hn : 0 < n) (hn2 : n ≤ 16777216)
    (v : Value) (hx : a.eval x = v) (hv : v.cells.size = n) (h : K (a.put o.dst (.slice (some ⟨w.heap.size, 0, none⟩) 1 1)) (w.alloc (.cells v.cells e))) : o.wp P a w K Q := by
  have hf : Array.foldl (fun cs (x : Value × Nat) => cs.setIfInBounds x.snd x.fst) (Array.map (fun x => z.cells[x % z.cells.size]!) (Array.range n)) v.cells.zipIdx 0 n = v.cells := by
    have hf := fill_whole v.cells (Array.map (fun x => z.cells[x % z.cells.size]!) (Array.range n)) (by simp [hv])
    have hsz : v.cells.zipIdx.size = n := by simp [hv]
    rw [hsz] at hf
    simpa only [Nat.zero_add] using hf
  have hn0 : n ≠ 0 := by omega
  have hn3 : ¬ 2 ^ 24 < n := by omega
  unfold Oper.wp execOp
  simp [ho, Instr.buildSlice, run_underlying ht, sizeOf, typeInfo, hi, hs, hn0, hn3, hz, hx, Instr.fill, hv, hf]
  simp [newRow, Oper.upon, Result.andThen]
  exact h
/-- append(v, ys...): what is appended is read from A on. -/
theorem wp_append_row {α : Type} (d : Kd α) (base : Nat) (s x : Operand) (t e : TypeId) (z : Value) (bytes : Nat)
    (ho : o.op = .call { callee := .builtin .append, args := #[s, x], argTypes := #[t, t] })
    (ht : P.underlying t = some (.slice e)) (hinfo : (P.info? e).map (fun i => (i.zero, i.size, i.bytes)) = some (some z, d.sz, bytes)) (hz : z.cells.size = d.sz) (hs0 : 0 < d.sz) (hb0 : 0 < bytes)
    (v : Value) (xs ys : List α) (ad : Addr) (m c : Nat) (F Fr : Nat → Prop) (hs : a.eval s = v) (hx : a.eval x = .slice (some ad) m c)
    (HO : d.Own e w F base v xs) (HR : d.C w Fr (some ad) m ys) (hFp : ∀ k, Fr k → k < w.heap.size → F k ∧ some k ≠ v.ownBlock) (hfresh : ∀ k, w.heap.size ≤ k → F k)
    (hbase : base ≤ w.heap.size) (hl : (xs.length + m) * bytes ≤ 140737488355328)
    (h : ∀ v1 w1, d.Own e w1 F base v1 (xs ++ ys) → w.grownBy w1 v.ownBlock → (v1.ownBlock = v.ownBlock ∨ ∃ b, v1.ownBlock = some b ∧ w.heap.size ≤ b) → K (a.put o.dst v1) w1) : o.wp P a w K Q := by
  obtain ⟨i0, hi, hzz⟩ := Option.map_eq_some_iff.1 hinfo
  simp only [Prod.mk.injEq] at hzz
  obtain ⟨hz0, hz1, hz2⟩ := hzz
  have hm : ys.length = m := HR.1
  have hlen : xs.length + m ≤ 140737488355328 := Nat.le_trans (Nat.le_mul_of_pos_right _ hb0) hl
  obtain ⟨hok, inner, hown, hr⟩ := HO
  obtain ⟨news, hnl, hnr, hnc⟩ := Kd.C_inner HR
  have hone : ∀ u ∈ news, u.oneCell' = true := by
    intro u hu
    obtain ⟨q, hq, rfl⟩ := List.mem_iff_getElem.1 hu
    have hql : q / d.sz < ys.length := by
      rw [Nat.div_lt_iff_lt_mul hs0, ← hnl]
      exact hq
    have hc := hnr (q / d.sz) _ (List.getElem?_eq_getElem hql)
    refine d.one hc _ ?_
    rw [List.mem_iff_getElem?]
    refine ⟨q % d.sz, ?_⟩
    rw [List.getElem?_take, if_pos (Nat.mod_lt _ hs0), List.getElem?_drop, Nat.mul_comm, Nat.div_add_mod, List.getElem?_eq_getElem hq]
  obtain ⟨v1, w1, hrun, h2, hg, _, hat⟩ := run_append_own_at (P := P) w base t o.type e i0 z d.sz bytes ht hi hz0 hz1 hz2 hz hs0 v xs.length inner hown ad m c news (by rw [hnl, hm]) hnc hone (by simp only [maxLen]; omega) hl hbase
  have hat' : v1.ownBlock = v.ownBlock ∨ ∃ b, v1.ownBlock = some b ∧ w.heap.size ≤ b := by
    rcases hat with hat | hat
    · exact .inl hat
    · exact .inr ⟨_, hat, Nat.le_refl _⟩
  unfold Oper.wp execOp
  simp only [ho, resolve, invoke, builtin, Sem.run_bind, Sem.run_pure, Result.andThen_ok, List.map_toArray, List.map_cons, List.map_nil, hs, hx, hrun]
  exact h v1 w1 (Kd.Own_appended hok hown.1 hr hnr hFp hfresh (by rw [hm]; exact h2) hg hat') hg hat'
end
end Go.Proofs.Ytjpeaeklhcnpnaa.K
