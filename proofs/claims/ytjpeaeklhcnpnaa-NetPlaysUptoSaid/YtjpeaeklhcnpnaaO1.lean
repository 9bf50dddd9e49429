/- What NetOnce keeps from round to round. No condition. -/
import Derived.Test.YtjpeaeklhcnpnaaQ1
namespace Go.Proofs.Ytjpeaeklhcnpnaa.K
open Go.RowKit
set_option linter.unusedVariables false
set_option linter.unusedSimpArgs false
def cId (ms : List Msg) (k : Int) : Int := ((ms.filter fun m => decide (m.Id = k)).length : Int)
theorem cId_nil (k : Int) : cId [] k = 0 := rfl
theorem cId_le (ms : List Msg) (k : Int) : 0 ≤ cId ms k ∧ cId ms k ≤ ms.length := by
  unfold cId
  have := List.length_filter_le (fun m : Msg => decide (m.Id = k)) ms
  omega
theorem cId_snoc (ms : List Msg) (x : Msg) (k : Int) : cId (ms ++ [x]) k = cId ms k + (if x.Id = k then 1 else 0) := by
  unfold cId
  rw [List.filter_append, List.length_append]
  by_cases h : x.Id = k <;> simp [h]
theorem cId_erase {ms : List Msg} {j : Nat} (hj : j < ms.length) (k : Int) : cId (ms.eraseIdx j) k = cId ms k - (if ms[j].Id = k then 1 else 0) := by
  have h := ((erase_perm ms j hj).filter fun m : Msg => decide (m.Id = k)).length_eq
  unfold cId
  rw [List.filter_cons] at h
  by_cases e : ms[j].Id = k
  · simp only [e, decide_true, if_true, List.length_cons] at h ⊢
    omega
  · simp only [e, decide_false, if_false, Bool.false_eq_true] at h ⊢
    omega
theorem cId_none {ms : List Msg} {last k : Int} (h : ∀ m ∈ ms, 1 ≤ m.Id ∧ m.Id ≤ last) (hk : ¬ (1 ≤ k ∧ k ≤ last)) : cId ms k = 0 := by
  unfold cId
  rw [List.filter_eq_nil_iff.2 (fun m hm => ?_)]
  · rfl
  · have := h m hm
    simp
    intro e
    exact hk (e ▸ this)
structure Once (i : Nat) (ms : List Msg) (last : Int) (c : Int → Int) (f g : Int → Option Value) (nf ng : Nat) : Prop where
  l0 : 0 ≤ last
  l1 : last ≤ i
  len : ms.length ≤ i
  nf : nf ≤ i
  ng : ng ≤ i
  ids : ∀ m ∈ ms, 1 ≤ m.Id ∧ m.Id ≤ last
  yes : ∀ k, 1 ≤ k → k ≤ last → f k = some (.int .i64 (c k + cId ms k))
  no : ∀ k, ¬ (1 ≤ k ∧ k ≤ last) → f k = none ∧ c k = 0
  came : ∀ k, (g k).getD (.int .i64 0) = .int .i64 (c k)
  low : ∀ k, 0 ≤ c k ∧ c k ≤ i
def upd (f : Int → Option Value) (k : Int) (v : Value) : Int → Option Value := fun k' => if k' = k then some v else f k'
theorem once_start : Once 0 [] 0 (fun _ => 0) (fun _ => none) (fun _ => none) 0 0 :=
  ⟨Int.le_refl _, Int.le_refl _, Nat.le_refl _, Nat.le_refl _, Nat.le_refl _, fun m hm => by simp at hm, fun k h1 h2 => by omega, fun k _ => ⟨rfl, rfl⟩, fun k => rfl, fun k => ⟨Int.le_refl _, Int.le_refl _⟩⟩
section
variable {i : Nat} {ms : List Msg} {last : Int} {c : Int → Int} {f g : Int → Option Value} {nf ng : Nat}
theorem Once.mono (h : Once i ms last c f g nf ng) : Once (i + 1) ms last c f g nf ng :=
  ⟨h.l0, by have := h.l1; omega, Nat.le_succ_of_le h.len, Nat.le_succ_of_le h.nf, Nat.le_succ_of_le h.ng, h.ids, h.yes, h.no, h.came, fun k => by have := h.low k; omega⟩
theorem Once.send (h : Once i ms last c f g nf ng) (x : Msg) (hx : x.Id = last + 1) : f (last + 1) = none ∧ Once (i + 1) (ms ++ [x]) (last + 1) c (upd f (last + 1) (.int .i64 1)) g (nf + 1) ng := by
  have h0 := h.no (last + 1) (by omega)
  have hl := h.l0
  refine ⟨h0.1, ⟨by omega, by have := h.l1; omega, by have := h.len; simp; omega, Nat.succ_le_succ h.nf, Nat.le_succ_of_le h.ng, fun m hm => ?_, fun k h1 h2 => ?_, fun k hk => ?_, h.came, fun k => by have := h.low k; omega⟩⟩
  · rcases List.mem_append.1 hm with hm | hm
    · have := h.ids m hm; omega
    · rw [List.mem_singleton.1 hm, hx]; omega
  · rw [cId_snoc, hx]
    unfold upd
    by_cases e : k = last + 1
    · subst e
      rw [if_pos rfl, if_pos rfl, h0.2, cId_none h.ids (by omega)]
      rfl
    · rw [if_neg e, if_neg (fun h => e h.symm), h.yes k h1 (by omega), Int.add_zero]
  · unfold upd
    rw [if_neg (by omega)]
    exact h.no k (by omega)
theorem Once.at_ (h : Once i ms last c f g nf ng) {j : Nat} (hj : j < ms.length) : ∃ v : Int, f ms[j].Id = some (.int .i64 v) ∧ v = c ms[j].Id + cId ms ms[j].Id ∧ 0 ≤ v ∧ v ≤ 2 * i := by
  have hi := h.ids _ (List.getElem_mem hj)
  have h1 := h.low ms[j].Id
  have h2 := cId_le ms ms[j].Id
  have h3 := h.len
  exact ⟨_, h.yes _ hi.1 hi.2, rfl, by omega, by omega⟩
theorem Once.lose (h : Once i ms last c f g nf ng) {j : Nat} (hj : j < ms.length) {v : Int} (hv : v = c ms[j].Id + cId ms ms[j].Id) : Once (i + 1) (ms.eraseIdx j) last c (upd f ms[j].Id (.int .i64 (v - 1))) g (nf + 1) ng := by
  have hi := h.ids _ (List.getElem_mem hj)
  refine ⟨h.l0, by have := h.l1; omega, by have := h.len; rw [List.length_eraseIdx]; split <;> omega, Nat.succ_le_succ h.nf, Nat.le_succ_of_le h.ng, fun m hm => h.ids m (List.mem_of_mem_eraseIdx hm), fun k h1 h2 => ?_, fun k hk => ?_, h.came, fun k => by have := h.low k; omega⟩
  · rw [cId_erase hj]
    unfold upd
    by_cases e : k = ms[j].Id
    · subst e
      rw [if_pos rfl, if_pos rfl, hv, Int.add_sub_assoc]
    · rw [if_neg e, if_neg (fun h => e h.symm), h.yes k h1 h2, Int.sub_zero]
  · unfold upd
    rw [if_neg (show ¬ k = ms[j].Id from fun e => hk (by rw [e]; exact hi))]
    exact h.no k hk
theorem Once.twice (h : Once i ms last c f g nf ng) {j : Nat} (hj : j < ms.length) {v : Int} (hv : v = c ms[j].Id + cId ms ms[j].Id) : Once (i + 1) (ms ++ [ms[j]]) last c (upd f ms[j].Id (.int .i64 (v + 1))) g (nf + 1) ng := by
  have hi := h.ids _ (List.getElem_mem hj)
  refine ⟨h.l0, by have := h.l1; omega, by have := h.len; simp; omega, Nat.succ_le_succ h.nf, Nat.le_succ_of_le h.ng, fun m hm => ?_, fun k h1 h2 => ?_, fun k hk => ?_, h.came, fun k => by have := h.low k; omega⟩
  · rcases List.mem_append.1 hm with hm | hm
    · exact h.ids m hm
    · rw [List.mem_singleton.1 hm]; exact hi
  · rw [cId_snoc]
    unfold upd
    by_cases e : k = ms[j].Id
    · subst e
      rw [if_pos rfl, if_pos rfl, hv, Int.add_assoc]
    · rw [if_neg e, if_neg (fun h => e h.symm), h.yes k h1 h2, Int.add_zero]
  · unfold upd
    rw [if_neg (show ¬ k = ms[j].Id from fun e => hk (by rw [e]; exact hi))]
    exact h.no k hk
theorem Once.come (h : Once i ms last c f g nf ng) {j : Nat} (hj : j < ms.length) : (g ms[j].Id).getD (.int .i64 0) = .int .i64 (c ms[j].Id) ∧ Once (i + 1) (ms.eraseIdx j) last (fun k => if k = ms[j].Id then c k + 1 else c k) f (upd g ms[j].Id (.int .i64 (c ms[j].Id + 1))) nf (ng + 1) := by
  have hi := h.ids _ (List.getElem_mem hj)
  refine ⟨h.came _, ⟨h.l0, by have := h.l1; omega, by have := h.len; rw [List.length_eraseIdx]; split <;> omega, Nat.le_succ_of_le h.nf, Nat.succ_le_succ h.ng, fun m hm => h.ids m (List.mem_of_mem_eraseIdx hm), fun k h1 h2 => ?_, fun k hk => ?_, fun k => ?_, fun k => ?_⟩⟩
  · rw [cId_erase hj, h.yes k h1 h2]
    by_cases e : k = ms[j].Id
    · rw [if_pos e, if_pos e.symm]
      congr 2
      omega
    · rw [if_neg e, if_neg (fun h => e h.symm), Int.sub_zero]
  · rw [if_neg (show ¬ k = ms[j].Id from fun e => hk (by rw [e]; exact hi))]
    exact h.no k hk
  · unfold upd
    by_cases e : k = ms[j].Id
    · subst e
      rw [if_pos rfl, if_pos rfl]
      rfl
    · rw [if_neg e, if_neg e]
      exact h.came k
  · have := h.low k
    by_cases e : k = ms[j].Id
    · rw [if_pos e]; omega
    · rw [if_neg e]; omega
end
end Go.Proofs.Ytjpeaeklhcnpnaa.K
