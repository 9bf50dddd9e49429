/- What the reference's Due tells, in plain words. No condition. -/
import Derived.Test.YtjpeaeklhcnpnaaT11
namespace Go.Proofs.Ytjpeaeklhcnpnaa.K
open Go.RowKit
set_option linter.unusedVariables false
set_option linter.unusedSimpArgs false
/-- The rows say what g says. -/
structure Rep (g : Int → Option Int) (L : List (Int × Int)) : Prop where
  mem : ∀ k a, (Lit.int .u64 k).wf = true → (g k = some a ↔ (k, a) ∈ L)
  wf : ∀ x ∈ L, (Lit.int .u64 x.1).wf = true ∧ (Lit.int .i64 x.2).wf = true
theorem Rep.at_ {g : Int → Option Int} {L : List (Int × Int)} (h : Rep g L) {x : Int × Int} (hx : x ∈ L) : g x.1 = some x.2 := (h.mem x.1 x.2 (h.wf x hx).1).2 hx
theorem Rep.atOf {g : Int → Option Int} {L : List (Int × Int)} (h : Rep g L) {x : Int × Int} (hx : x ∈ L) : atOf g x.1 = x.2 := by
  unfold K.atOf
  rw [h.at_ hx]
  rfl
/-- One row is ahead of another. -/
def RLt (x y : Int × Int) : Prop := x.2 < y.2 ∨ (x.2 = y.2 ∧ x.1 < y.1)
/-- The rows up to i are looked through. -/
def LScan (L : List (Int × Int)) (now : Int) (i : Nat) (lk : Int) : Prop :=
  (lk = -1 ∧ ∀ j (hj : j < L.length), j < i → now < L[j].2) ∨
  ∃ (j : Nat) (hj : j < L.length), lk = j ∧ j < i ∧ L[j].2 ≤ now ∧ ∀ j' (hj' : j' < L.length), j' < i → L[j'].2 ≤ now → ¬ RLt L[j'] L[j]
theorem lscan_start (L : List (Int × Int)) (now : Int) : LScan L now 0 (-1) := .inl ⟨rfl, fun j hj h => by omega⟩
theorem lscan_late {L : List (Int × Int)} {now : Int} {i : Nat} {lk : Int} (h : LScan L now i lk) (hi : i < L.length) (hl : now < L[i].2) : LScan L now (i + 1) lk := by
  rcases h with ⟨e, h⟩ | ⟨j, hj, e, hji, h1, h2⟩
  · refine .inl ⟨e, fun j hj hji => ?_⟩
    by_cases e2 : j = i
    · subst e2; exact hl
    · exact h j hj (by omega)
  · refine .inr ⟨j, hj, e, by omega, h1, fun j' hj' hji' hle => ?_⟩
    by_cases e2 : j' = i
    · subst e2; omega
    · exact h2 j' hj' (by omega) hle
theorem lscan_first {L : List (Int × Int)} {now : Int} {i : Nat} (h : LScan L now i (-1)) (hi : i < L.length) (hl : L[i].2 ≤ now) : LScan L now (i + 1) i := by
  rcases h with ⟨e, h⟩ | ⟨j, hj, e, _⟩
  · refine .inr ⟨i, hi, rfl, by omega, hl, fun j' hj' hji' hle => ?_⟩
    by_cases e2 : j' = i
    · subst e2; unfold RLt; omega
    · have := h j' hj' (by omega); omega
  · omega
theorem lscan_less {L : List (Int × Int)} {now : Int} {i j : Nat} (h : LScan L now i j) (hi : i < L.length) (hj : j < L.length) (hl : L[i].2 ≤ now) (hlt : RLt L[i] L[j]) : LScan L now (i + 1) i := by
  rcases h with ⟨e, h⟩ | ⟨j0, hj0, e, hji, h1, h2⟩
  · omega
  · have e' : j0 = j := by omega
    subst e'
    refine .inr ⟨i, hi, rfl, by omega, hl, fun j' hj' hji' hle => ?_⟩
    by_cases e2 : j' = i
    · subst e2; unfold RLt; omega
    · have := h2 j' hj' (by omega) hle
      unfold RLt at *
      omega
theorem lscan_not {L : List (Int × Int)} {now : Int} {i j : Nat} (h : LScan L now i j) (hi : i < L.length) (hj : j < L.length) (hlt : ¬ RLt L[i] L[j]) : LScan L now (i + 1) j := by
  rcases h with ⟨e, h⟩ | ⟨j0, hj0, e, hji, h1, h2⟩
  · omega
  · have e' : j0 = j := by omega
    subst e'
    refine .inr ⟨j0, hj0, rfl, by omega, h1, fun j' hj' hji' hle => ?_⟩
    by_cases e2 : j' = i
    · subst e2; exact hlt
    · exact h2 j' hj' (by omega) hle
/-- What is left of the rows. -/
def lft (L : List (Int × Int)) (outs : List Int) : List (Int × Int) := L.filter fun x => !(outs.contains x.1)
theorem lft_nil (L : List (Int × Int)) : lft L [] = L := by simp [lft]
theorem lft_mem {L : List (Int × Int)} {outs : List Int} {x : Int × Int} : x ∈ lft L outs ↔ x ∈ L ∧ x.1 ∉ outs := by
  unfold lft
  rw [List.mem_filter]
  simp
theorem lft_step (L : List (Int × Int)) (outs : List Int) (id : Int) : flt (lft L outs) id = lft L (outs ++ [id]) := by
  unfold flt lft
  rw [List.filter_filter]
  apply List.filter_congr
  intro x _
  by_cases h1 : x.1 ∈ outs <;> by_cases h2 : x.1 = id <;> simp [h1, h2]
/-- Between two rounds of the reference's Due. -/
structure RInv (g : Int → Option Int) (now : Int) (L : List (Int × Int)) (outs : List Int) : Prop where
  asc : outs.Pairwise (TLt g)
  due : ∀ o ∈ outs, ∃ x ∈ L, x.1 = o ∧ x.2 ≤ now
  rest : ∀ o ∈ outs, ∀ x ∈ lft L outs, x.2 ≤ now → TLt g o x.1
theorem rinv_start (g : Int → Option Int) (now : Int) (L : List (Int × Int)) : RInv g now L [] := ⟨List.Pairwise.nil, fun o ho => by simp at ho, fun o ho => by simp at ho⟩
theorem rinv_step {g : Int → Option Int} {now : Int} {L : List (Int × Int)} {outs : List Int} (hR : Rep g L) (h : RInv g now L outs) {j : Nat} (hj : j < (lft L outs).length) (hL : LScan (lft L outs) now (lft L outs).length j) : RInv g now L (outs ++ [(lft L outs)[j].1]) := by
  rcases hL with ⟨e, _⟩ | ⟨j0, hj0, e, _, h1, h2⟩
  · omega
  have e' : j0 = j := by omega
  subst e'
  have hx : (lft L outs)[j0] ∈ lft L outs := List.getElem_mem hj
  generalize (lft L outs)[j0] = x at h1 h2 hx ⊢
  have hxL := (lft_mem.1 hx).1
  refine ⟨?_, fun o ho => ?_, fun o ho y hy hle => ?_⟩
  · rw [List.pairwise_append]
    refine ⟨h.asc, List.pairwise_singleton _ _, fun o ho z hz => ?_⟩
    rw [List.mem_singleton.1 hz]
    exact h.rest o ho x hx h1
  · rcases List.mem_append.1 ho with ho | ho
    · exact h.due o ho
    · exact ⟨x, hxL, (List.mem_singleton.1 ho).symm, h1⟩
  · rw [← lft_step] at hy
    have hy2 : y ∈ lft L outs ∧ y.1 ≠ x.1 := by
      unfold flt at hy
      rw [List.mem_filter] at hy
      exact ⟨hy.1, by simpa using hy.2⟩
    rcases List.mem_append.1 ho with ho | ho
    · exact h.rest o ho y hy2.1 hle
    · rw [List.mem_singleton.1 ho]
      obtain ⟨q, hq, eq⟩ := List.mem_iff_getElem.1 hy2.1
      have h3 := h2 q hq hq (by rw [eq]; exact hle)
      rw [eq] at h3
      unfold RLt at h3
      unfold TLt
      rw [hR.atOf hxL, hR.atOf (lft_mem.1 hy2.1).1]
      have := hy2.2
      omega
theorem rinv_end {g : Int → Option Int} {now : Int} {L : List (Int × Int)} {outs : List Int} (hR : Rep g L) (h : RInv g now L outs) (hL : LScan (lft L outs) now (lft L outs).length (-1)) : DueList g now outs := by
  refine ⟨h.asc, fun k hk => ?_, fun k hk => ⟨fun hm => ?_, fun ⟨hs, hle⟩ => ?_⟩⟩
  · obtain ⟨x, hx, rfl, _⟩ := h.due k hk
    exact (hR.wf x hx).1
  · obtain ⟨x, hx, rfl, hle⟩ := h.due k hm
    exact ⟨by rw [hR.at_ hx]; rfl, by rw [hR.atOf hx]; exact hle⟩
  · obtain ⟨a, ha⟩ := Option.isSome_iff_exists.1 hs
    have hm := (hR.mem k a hk).1 ha
    apply Classical.byContradiction
    intro hno
    have hl : (k, a) ∈ lft L outs := lft_mem.2 ⟨hm, hno⟩
    obtain ⟨j, hj, e⟩ := List.mem_iff_getElem.1 hl
    rcases hL with ⟨_, h1⟩ | ⟨j0, _, e0, _⟩
    · have := h1 j hj hj
      rw [e] at this
      have h2 : K.atOf g k = a := by unfold K.atOf; rw [ha]; rfl
      simp only at this
      omega
    · omega
theorem dueList_eq {g : Int → Option Int} {now : Int} {a b : List Int} (ha : DueList g now a) (hb : DueList g now b) : a = b := by
  have irr : ∀ x, ¬ TLt g x x := fun x => by unfold TLt; omega
  have na : a.Nodup := List.Pairwise.imp (S := fun x y => x ≠ y) (fun {x y} h e => irr x (by rw [← e] at h; exact h)) ha.asc
  have nb : b.Nodup := List.Pairwise.imp (S := fun x y => x ≠ y) (fun {x y} h e => irr x (by rw [← e] at h; exact h)) hb.asc
  have hp : a.Perm b := (List.perm_ext_iff_of_nodup na nb).2 fun x => by
    constructor
    · exact fun hx => (hb.mem x (ha.wf x hx)).2 ((ha.mem x (ha.wf x hx)).1 hx)
    · exact fun hx => (ha.mem x (hb.wf x hx)).2 ((hb.mem x (hb.wf x hx)).1 hx)
  refine List.Perm.eq_of_pairwise (le := TLt g) (fun x y _ _ h1 h2 => ?_) ha.asc hb.asc hp
  unfold TLt at h1 h2
  omega
/-! ### How g and the rows go on -/
theorem rep_start : Rep (fun _ => none) [] := ⟨fun k a _ => by simp, fun x hx => by simp at hx⟩
theorem rep_drop {g : Int → Option Int} {L : List (Int × Int)} (h : Rep g L) (id : Int) : Rep (gdrop g id) (flt L id) := by
  refine ⟨fun k a hk => ?_, fun x hx => h.wf x (List.mem_filter.1 hx).1⟩
  unfold gdrop flt
  rw [List.mem_filter]
  by_cases e : k = id
  · simp [e]
  · simp [e, h.mem k a hk]
theorem rep_set {g : Int → Option Int} {L : List (Int × Int)} (h : Rep g L) {id at_ : Int} (hi : (Lit.int .u64 id).wf = true) (ha : (Lit.int .i64 at_).wf = true) : Rep (gset g id at_) (flt L id ++ [(id, at_)]) := by
  refine ⟨fun k a hk => ?_, fun x hx => ?_⟩
  · unfold gset flt
    rw [List.mem_append, List.mem_filter, List.mem_singleton]
    by_cases e : k = id
    · simp [e, eq_comm]
    · simp [e, h.mem k a hk]
  · rcases List.mem_append.1 hx with hx | hx
    · exact h.wf x (List.mem_filter.1 hx).1
    · rw [List.mem_singleton.1 hx]
      exact ⟨hi, ha⟩
theorem rep_del {g : Int → Option Int} {L : List (Int × Int)} (h : Rep g L) (outs : List Int) : Rep (gdel g outs) (lft L outs) := by
  refine ⟨fun k a hk => ?_, fun x hx => h.wf x (lft_mem.1 hx).1⟩
  rw [lft_mem]
  unfold gdel
  by_cases e : k ∈ outs
  · simp [e]
  · simp [e, h.mem k a hk]
theorem rep_has {g : Int → Option Int} {L : List (Int × Int)} (h : Rep g L) {id : Int} (hi : (Lit.int .u64 id).wf = true) : hasId L id = (g id).isSome := by
  unfold hasId
  rw [Bool.eq_iff_iff, List.any_eq_true, Option.isSome_iff_exists]
  constructor
  · rintro ⟨x, hx, e⟩
    have e' : x.1 = id := by simpa using e
    exact ⟨x.2, by rw [← e']; exact h.at_ hx⟩
  · rintro ⟨a, ha⟩
    exact ⟨(id, a), (h.mem id a hi).1 ha, by simp⟩
end Go.Proofs.Ytjpeaeklhcnpnaa.K
