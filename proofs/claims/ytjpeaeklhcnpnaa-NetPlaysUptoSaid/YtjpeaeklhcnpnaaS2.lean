/- slices.Insert of one number into a row of numbers, by contracts. No condition but that the row fits. -/
import Derived.Test.YtjpeaeklhcnpnaaS1
import Derived.Lib.AppendZerosOnto
import Derived.Lib.Overlaps
import Derived.Laws.IdiomCopy
import Derived.Outline
namespace Go.Proofs.Ytjpeaeklhcnpnaa.K
open Go.RowKit
set_option linter.unusedVariables false
set_option linter.unusedSimpArgs false
section
variable {P : Program} {ops : Array Oper} {rest : List Oper} {o : Oper} {a : Act} {w w' : World} {K : Act → World → Prop} {Q : Exit → Act → World → Prop} {t t2 : TypeId} {vs vx v : Value}
theorem wp_append_run (s x : Operand) (ho : o.op = .call { callee := .builtin .append, args := #[s, x], argTypes := #[t, t2] }) (hs : a.eval s = vs) (hx : a.eval x = vx) (hrun : (Builtin.append_ #[t, t2] o.type #[vs, vx]).run P w = .ok v w')
    (h : K (a.put o.dst v) w') : o.wp P a w K Q := by
  unfold Oper.wp execOp
  simp only [ho, resolve, invoke, builtin, Sem.run_bind, Sem.run_pure, Result.andThen_ok, List.map_toArray, List.map_cons, List.map_nil, hs, hx, hrun]
  exact h
theorem wp_copy_run (s x : Operand) (ho : o.op = .call { callee := .builtin .copy, args := #[s, x], argTypes := #[t, t2] }) (hs : a.eval s = vs) (hx : a.eval x = vx) (hrun : (Builtin.copy_ #[t, t2] o.type #[vs, vx]).run P w = .ok v w')
    (h : K (a.put o.dst v) w') : o.wp P a w K Q := by
  unfold Oper.wp execOp
  simp only [ho, resolve, invoke, builtin, Sem.run_bind, Sem.run_pure, Result.andThen_ok, List.map_toArray, List.map_cons, List.map_nil, hs, hx, hrun]
  exact h
theorem step_copy_run {E : Prop} (hg : o.guard = none) (s x : Operand) (ho : o.op = .call { callee := .builtin .copy, args := #[s, x], argTypes := #[t, t2] }) (hs : a.eval s = vs) (hx : a.eval x = vx) (hrun : (Builtin.copy_ #[t, t2] o.type #[vs, vx]).run P w = .ok v w')
    (h : K (a.put o.dst v) w') : if Region.wanted o (yielded ops a.tmps) = true then Oper.wp P o a w K Q else E := by
  rw [if_pos (by simp [Region.wanted, hg])]
  exact wp_copy_run s x ho hs hx hrun h
theorem wpList_append_run (hg : o.guard = none) (s x : Operand) (ho : o.op = .call { callee := .builtin .append, args := #[s, x], argTypes := #[t, t2] }) (hs : a.eval s = vs) (hx : a.eval x = vx) (hrun : (Builtin.append_ #[t, t2] o.type #[vs, vx]).run P w = .ok v w')
    (h : wpList P ops Q rest (a.put o.dst v) w') : wpList P ops Q (o :: rest) a w := wpList_plain hg fun K hK => wp_append_run s x ho hs hx hrun (hK _ _ h)
theorem wpList_copy_run (hg : o.guard = none) (s x : Operand) (ho : o.op = .call { callee := .builtin .copy, args := #[s, x], argTypes := #[t, t2] }) (hs : a.eval s = vs) (hx : a.eval x = vx) (hrun : (Builtin.copy_ #[t, t2] o.type #[vs, vx]).run P w = .ok v w')
    (h : wpList P ops Q rest (a.put o.dst v) w') : wpList P ops Q (o :: rest) a w := wpList_plain hg fun K hK => wp_copy_run s x ho hs hx hrun (hK _ _ h)
end
theorem info28 : (Try.prog.info? 28).map (fun i => (i.zero, i.size, i.bytes)) = some (some (.int .u64 0), 1, 8) := by kernel_rfl
theorem size28 : (Try.prog.info? 28).map (·.size) = some 1 := by kernel_rfl
theorem sizeOf28 (w : World) : (Go.sizeOf 28).run Try.prog w = .ok 1 w := by kernel_rfl
def us (xs : List Int) : List Value := xs.map (Value.int .u64)
theorem us_one (xs : List Int) : ∀ u ∈ us xs, u.oneCell' = true := by
  intro u hu
  obtain ⟨x, _, rfl⟩ := List.mem_map.1 hu
  rfl
/-- A row of numbers in place: block g from off on, n of cap. -/
structure URow (w : World) (g off cap : Nat) (xs : List Int) : Prop where
  blk : ∃ cur, w.heap[g]? = some (.cells cur 28 (0, 0)) ∧ off + cap ≤ cur.size
  len : xs.length ≤ cap
  fit : cap ≤ 9223372036854775807
  at_ : ∀ j x, xs[j]? = some x → w.cell? ⟨g, off + j, none⟩ = some (.int .u64 x)
def USl (w : World) (F : Nat → Prop) (v : Value) (xs : List Int) : Prop :=
  (v = .slice none 0 0 ∧ xs = []) ∨ ∃ g off cap, v = .slice (some ⟨g, off, none⟩) xs.length cap ∧ F g ∧ URow w g off cap xs
section
variable {w w' : World} {g off cap : Nat} {xs : List Int} {F : Nat → Prop} {v : Value}
theorem URow.lt (h : URow w g off cap xs) : g < w.heap.size := by
  obtain ⟨⟨cur, h1, _⟩, _⟩ := h
  exact blk_lt h1
theorem URow.some_ (h : URow w g off cap xs) {j : Nat} (hj : j < cap) : (w.cell? ⟨g, off + j, none⟩).isSome = true := by
  obtain ⟨⟨cur, h1, h2⟩, _⟩ := h
  rw [blk_cell h1, Array.getElem?_eq_getElem (by omega)]
  rfl
theorem URow.free (h : URow w g off cap xs) (j : Nat) : w.frozen? ⟨g, j, none⟩ = false := by
  obtain ⟨⟨cur, h1, h2⟩, _⟩ := h
  exact blk_frozen h1 _
theorem URow.same (h : URow w g off cap xs) (hb : w'.heap[g]? = w.heap[g]?) : URow w' g off cap xs := by
  obtain ⟨⟨cur, h1, h2⟩, h3, h4, h5⟩ := h
  exact ⟨⟨cur, hb.trans h1, h2⟩, h3, h4, fun j x hj => by rw [World.cell?_of_block (w := w) hb]; exact h5 j x hj⟩
theorem URow.cells (h : URow w g off cap xs) : ∀ j u, (us xs)[j]? = some u → w.cell? ⟨g, off + j, none⟩ = some u := by
  intro j u hu
  simp only [K.us, List.getElem?_map, Option.map_eq_some_iff] at hu
  obtain ⟨x, hx, rfl⟩ := hu
  exact h.at_ j x hx
theorem USl.same (h : USl w F v xs) (hb : ∀ k, F k → k < w.heap.size → w'.heap[k]? = w.heap[k]?) : USl w' F v xs := by
  rcases h with h | ⟨g, off, cap, rfl, hF, hr⟩
  · exact .inl h
  · exact .inr ⟨g, off, cap, rfl, hF, hr.same (hb g hF hr.lt)⟩
theorem USl.mono {F' : Nat → Prop} (h : USl w F v xs) (hF : ∀ k, F k → F' k) : USl w F' v xs := by
  rcases h with h | ⟨g, off, cap, rfl, h1, hr⟩
  · exact .inl h
  · exact .inr ⟨g, off, cap, rfl, hF g h1, hr⟩
/-- The row's cells from i on are written. -/
theorem URow.lay (h : URow w g off cap xs) {i : Nat} (hi : i ≤ xs.length) {ys : List Int} (hc : i + ys.length ≤ cap) (htail : ys.length + i ≥ xs.length) : URow (w.setCells g (off + i) (us ys)) g off cap (xs.take i ++ ys) := by
  obtain ⟨⟨cur, h1, h2⟩, h3, h4, h5⟩ := h
  obtain ⟨cur', g1, g2⟩ := setCells_block (us ys) (off + i) w h1
  have hl : (us ys).length = ys.length := List.length_map _
  have hth : w.there g (off + i) (us ys).length := fun j hj => ⟨by rw [blk_cell h1, Array.getElem?_eq_getElem (by omega)]; rfl, blk_frozen h1 _⟩
  refine ⟨⟨cur', g1, by omega⟩, by simp; omega, h4, fun j x hj => ?_⟩
  rcases Nat.lt_or_ge j i with hlt | hge
  · rw [List.getElem?_append_left (by simp; omega), List.getElem?_take, if_pos hlt] at hj
    rw [World.cell?_setCells_out g _ _ _ _ (fun _ _ => .inl (by show off + j < off + i; omega))]
    exact h5 j x hj
  · have htl : (xs.take i).length = i := by rw [List.length_take]; omega
    rw [List.getElem?_append_right (by omega), htl] at hj
    have := World.rangeAt_setCells_same w g (off + i) (us ys) hth (j - i) (.int .u64 x) (by simp only [K.us, List.getElem?_map, hj]; rfl)
    rw [show off + i + (j - i) = off + j by omega] at this
    exact this
theorem URow.put (h : URow w g off cap xs) {i : Nat} (hi : i < xs.length) (y : Int) : URow (w.setCells g (off + i) (us [y])) g off cap (xs.set i y) := by
  obtain ⟨⟨cur, h1, h2⟩, h3, h4, h5⟩ := h
  obtain ⟨cur', g1, g2⟩ := setCells_block (us [y]) (off + i) w h1
  have hth : w.there g (off + i) (us [y]).length := fun j hj => ⟨by rw [blk_cell h1, Array.getElem?_eq_getElem (by simp [us] at hj; omega)]; rfl, blk_frozen h1 _⟩
  refine ⟨⟨cur', g1, by omega⟩, by simpa using h3, h4, fun j x hj => ?_⟩
  rw [List.getElem?_set] at hj
  by_cases e : i = j
  · subst e
    rw [if_pos rfl, if_pos hi] at hj
    injection hj with hj
    subst hj
    exact World.rangeAt_setCells_same w g (off + i) (us [y]) hth 0 _ rfl
  · rw [if_neg e] at hj
    rw [World.cell?_setCells_out g _ _ _ _ (fun _ _ => by show off + j < off + i ∨ off + i + 1 ≤ off + j; omega)]
    exact h5 j x hj
theorem insert_list {xs : List Int} {i : Nat} (hi : i ≤ xs.length) (y : Int) : (xs.take (i + 1) ++ xs.drop i).set i y = xs.take i ++ y :: xs.drop i ∨ i = xs.length := by
  rcases Nat.lt_or_ge i xs.length with h | h
  · left
    refine List.ext_getElem? fun j => ?_
    rw [List.getElem?_set]
    by_cases e : i = j
    · subst e
      rw [if_pos rfl, if_pos (by simp; omega), List.getElem?_append_right (by rw [List.length_take]; omega), List.length_take]
      simp [Nat.min_eq_left hi]
    · rw [if_neg e]
      rcases Nat.lt_or_ge j i with h1 | h1
      · rw [List.getElem?_append_left (by simp; omega), List.getElem?_append_left (by simp; omega), List.getElem?_take, List.getElem?_take, if_pos (by omega), if_pos h1]
      · rw [List.getElem?_append_right (by simp; omega), List.getElem?_append_right (by simp; omega), List.length_take, List.length_take, Nat.min_eq_left (by omega), Nat.min_eq_left hi]
        rw [show j - i = (j - (i + 1)) + 1 by omega, List.getElem?_cons_succ]
  · right; omega
end
theorem overlaps_no {w : World} {g vb o : Nat} {cur : Array Value} {y : Int} (hg : w.heap[g]? = some (.cells cur 28 (0, 0))) (hc : cur.size ≠ 0) (hv : w.heap[vb]? = some (.cells #[.int .u64 y] 28 (0, 0))) (hne : vb ≠ g) (lb cb : Nat) :
    (callFunc 66 #[.slice (some ⟨vb, 0, none⟩) 1 1, .slice (some ⟨g, o, none⟩) lb cb]).run Try.prog w = .ok (.value (.bool false)) w := by
  rw [run_callFunc_extern Try.func66 (by kernel_rfl) (by kernel_rfl) (by kernel_rfl) (e := Extern.SlicesOverlaps.overlaps #[79, 79] #[4]) (by kernel_rfl),
    Lib.run_overlaps_apart w 79 4 28 Try.underlying79 1 sizeOf28 ⟨vb, 0, none⟩ ⟨g, o, none⟩ 1 1 lb cb hne 28 28 1 cur.size (by simp [World.shape?, hv]) (by simp [World.shape?, hg]) hc (blk_frozen hv 0) (blk_frozen hv 1)]
  rfl
set_option maxHeartbeats 4000000 in
set_option maxRecDepth 100000 in
theorem insert_shift {w : World} {g off cap vb i : Nat} {xs : List Int} {y : Int} (h : URow w g off cap xs) (hi : i < xs.length) (hroom : xs.length + 1 ≤ cap) (hv : w.heap[vb]? = some (.cells #[.int .u64 y] 28 (0, 0))) (hne : vb ≠ g) :
    Calls Try.prog 40 #[.slice (some ⟨g, off, none⟩) xs.length cap, .int .i64 i, .slice (some ⟨vb, 0, none⟩) 1 1] w fun e w' => e = .returned (.slice (some ⟨g, off, none⟩) (xs.length + 1) cap) ∧ w' = (w.drew.setCells g (off + (i + 1)) (us (xs.drop i))).setCells g (off + i) (us [y]) := by
  have hov : ∀ lb cb, (callFunc 66 #[.slice (some ⟨vb, 0, none⟩) 1 1, .slice (some ⟨g, off + (i + 1), none⟩) lb cb]).run Try.prog w = .ok (.value (.bool false)) w := by
    obtain ⟨cur, h1, h2⟩ := h.blk
    exact fun lb cb => overlaps_no h1 (by omega) hv hne lb cb
  have h63 := h.fit
  have hdl : (us (xs.drop i)).length = xs.length - i := by simp [us]
  have HC1 : Hid (∀ ty dc sc, (Builtin.copy_ #[79, 79] ty #[.slice (some ⟨g, off + (i + 1), none⟩) (xs.length - i) dc, .slice (some ⟨g, off + i, none⟩) (xs.length + 1 - i) sc]).run Try.prog w.drew = .ok (goInt (us (xs.drop i)).length) (w.drew.setCells g (off + (i + 1)) (us (xs.drop i)))) := fun ty dc sc =>
    run_copy_cells w.drew 79 79 ty 28 g (off + (i + 1)) (xs.length - i) dc ⟨g, off + i, none⟩ (xs.length + 1 - i) sc (us (xs.drop i)) Try.underlying79 size28 (by rw [hdl]; simp only [Nat.min_def]; split <;> omega)
      (fun j u hj => by
        rw [Addr.add_mid, Nat.add_assoc]
        refine h.cells (i + j) u ?_
        simpa [us] using hj)
      (fun j hj => by rw [Nat.add_assoc]; exact h.some_ (by omega)) (fun j hj => h.free _) (us_one _)
  have hrow : URow w.drew g off cap xs := h.same rfl
  have hlay := hrow.lay (i := i + 1) (ys := xs.drop i) (by omega) (by rw [List.length_drop]; omega) (by rw [List.length_drop]; omega)
  obtain ⟨W1, hW1⟩ : ∃ W1, W1 = w.drew.setCells g (off + (i + 1)) (us (xs.drop i)) := ⟨_, rfl⟩
  rw [← hW1] at hlay HC1 ⊢
  have hv1 : W1.heap[vb]? = some (.cells #[.int .u64 y] 28 (0, 0)) := by rw [hW1, setCells_other _ _ _ hne]; exact hv
  have HC2 : Hid (∀ ty dc, (Builtin.copy_ #[79, 79] ty #[.slice (some ⟨g, off + i, none⟩) (xs.length + 1 - i) dc, .slice (some ⟨vb, 0, none⟩) 1 1]).run Try.prog W1 = .ok (goInt (us [y]).length) (W1.setCells g (off + i) (us [y]))) := fun ty dc =>
    run_copy_cells W1 79 79 ty 28 g (off + i) (xs.length + 1 - i) dc ⟨vb, 0, none⟩ 1 1 (us [y]) Try.underlying79 size28 (by show 1 = _; simp only [Nat.min_def]; split <;> omega)
      (fun j u hj => by
        have : j = 0 := by have := (List.getElem?_eq_some_iff.1 hj).1; simp [us] at this; exact this
        subst this
        rw [Addr.add_mid, blk_cell hv1]
        exact hj)
      (fun j hj => by rw [Nat.add_assoc]; exact hlay.some_ (by simp [us] at hj; omega)) (fun j hj => hlay.free _) (us_one _)
  clear hv1 hlay hrow hdl h hv
  have b1 : (0 : Int) ≤ (i : Int) + 1 := by omega
  have b2 : (i : Int) + 1 ≤ (xs.length : Int) + 1 := by omega
  have b3 : (i : Int) ≤ (xs.length : Int) + 1 := by omega
  have b4 : (xs.length : Int) + 1 ≤ (cap : Int) := by omega
  have hne1 : ¬ cap = i := by omega
  have hne2 : ¬ cap = i + 1 := by omega
  have hin : i ≤ xs.length := by omega
  have hq1 : ¬ ((i : Int) = (xs.length : Int)) := by omega
  generalize xs.length = n at *
  go_enter Try.func40, Try.ntmps40
  go_wp2_with (simp only [hov])
  have hw1 : IntKind.i64.wrap ((i : Int) + 1) = (i : Int) + 1 := by rw [IntKind.wrap_i64]; omega
  have htn : ((i : Int) + 1).toNat = i + 1 := by omega
  have hcp1 := HC1.out
  have hcp2 := HC2.out
  clear HC1 HC2 hW1
  go_region_law (fail)
  go_wp2
  go_ret
  exact ⟨rfl, rfl⟩
end Go.Proofs.Ytjpeaeklhcnpnaa.K
