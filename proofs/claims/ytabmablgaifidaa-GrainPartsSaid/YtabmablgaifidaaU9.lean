/- The contract of slices.SortFunc at spans, as grain.Union calls it. No condition beyond the row's. -/
import Derived.Test.YtabmablgaifidaaU8
import Derived.Test.YtabmablgaifidaaShelf
import Derived.Shelf.SlSortCmp.NoneTotal
namespace Go.Proofs.Ytabmablgaifidaa.PGrain
open Go.RowKit Go.Proofs.YtabmablgaifidaaW.PrintWords
set_option linter.unusedVariables false

theorem Row.sorted {W : World} {g cap : Nat} {l : List S26} (h : Row W g cap l) (d : Array S26) (hd : d.size = l.length) (n : Nat) (os : Array Obj) :
    Row (Go.Proofs.sortWorldK encS 2 W g 0 n d os) g cap d.toList ∧ W.grownBy (Go.Proofs.sortWorldK encS 2 W g 0 n d os) (some g) := by
  have hlt := h.lt
  obtain ⟨cur, hc, hm, hs, hl, hx⟩ := h
  have hh : (Go.Proofs.sortWorldK encS 2 W g 0 n d os).heap = W.heap.modify g (Sort.onCells (Sort.putCells id 0 (Sort.flatK encS 2 d))) ++ os := rfl
  have hblk : ∀ k, k < W.heap.size → (Go.Proofs.sortWorldK encS 2 W g 0 n d os).heap[k]? = (W.heap.modify g (Sort.onCells (Sort.putCells id 0 (Sort.flatK encS 2 d))))[k]? := fun k hk => by
    rw [hh, Array.getElem?_append_left (by simpa using hk)]
  refine ⟨⟨Sort.putCells id 0 (Sort.flatK encS 2 d) cur, ?_, hm, by simp [Sort.putCells, hs], by simpa [hd] using hl, fun i hi => ?_⟩, ⟨rfl, rfl, rfl, by rw [hh]; simp, fun k hk hne => ?_⟩⟩
  · rw [hblk g hlt, Array.getElem?_modify, if_pos rfl, hc]
    rfl
  · have hi' : i < d.size := by simpa using hi
    have hf := flat_get d i hi'
    have hsz : (Sort.flatK encS 2 d).size = d.size * 2 := Sort.size_flatK _ _ _
    unfold Sort.putCells
    rw [Array.getElem?_mapIdx, Array.getElem?_mapIdx, Array.getElem?_eq_getElem (show i * 2 < cur.size by omega), Array.getElem?_eq_getElem (show i * 2 + 1 < cur.size by omega)]
    simp only [Option.map_some]
    rw [if_pos (by omega), if_pos (by omega)]
    simp only [Nat.sub_zero, id]
    rw [hf.1, hf.2]
    exact ⟨by simp, by simp⟩
  · rw [hblk k hk, Array.getElem?_modify, if_neg (fun e => hne (by rw [e]))]

theorem swoS : Sort.SWO (Go.Proofs.ltOf fun x y : S26 => cmpS x.f0 y.f0) := by
  have key : ∀ x y : S26, Go.Proofs.ltOf (fun x y : S26 => cmpS x.f0 y.f0) x y = decide (x.f0 < y.f0) := fun x y => by
    unfold Go.Proofs.ltOf cmpS
    by_cases h1 : x.f0 < y.f0
    · simp [h1]
    · by_cases h2 : y.f0 < x.f0 <;> simp [h1, h2]
  exact ⟨fun x => by rw [key]; simp, fun x y z h1 h2 => by rw [key] at *; simp at *; omega, fun x y z h1 h2 => by rw [key] at *; simp at *; omega⟩
theorem ltS (x y : S26) : Go.Proofs.ltOf (fun x y : S26 => cmpS x.f0 y.f0) x y = decide (x.f0 < y.f0) := by
  unfold Go.Proofs.ltOf cmpS
  by_cases h1 : x.f0 < y.f0
  · simp [h1]
  · by_cases h2 : y.f0 < x.f0 <;> simp [h1, h2]
theorem enters28 : ∀ args w, (callFunc 28 args).run Try.prog w = .ok (.enter 28 args) w := enters_of Try.func28 (by kernel_rfl) rfl
theorem sort_calls (g cap : Nat) (l : List S26) (w : World) (hr : Row w g cap l) (hm : l.length ≤ 8796093022208) :
    Calls Try.prog 27 #[.slice (some ⟨g, 0, none⟩) l.length cap, .func (.func 28) #[] #[]] w fun e w' => e = .returned (.tuple #[]) ∧ ∃ d, d.Perm l ∧ d.Pairwise (fun a b => a.f0 ≤ b.f0) ∧ Row w' g cap d ∧ w.grownBy w' (some g) := by
  have hcon := AnyQ.slices_SortFunc Try.sortSpan 2 Try.isAgg26 Try.sizeOf26 encS (fun _ => rfl) (fun x v hv => by simp [encS] at hv; rcases hv with rfl | rfl <;> rfl) (fun x y => cmpS x.f0 y.f0) swoS 28 #[] g 0 cap l.toArray w enters28 (fun _ _ _ _ x y => cmp_calls x y _) hr.holds hr.lt (by simp; omega)
  change Calls Try.prog 27 #[.slice (some ⟨g, 0, none⟩) l.length cap, .func (.func 28) #[] #[]] w _ at hcon
  refine hcon.mono fun e w' ⟨he, d, n, os, hp, hs, hw⟩ => ⟨he, d.toList, ?_, ?_, ?_⟩
  · have := hp.2.2
    have e1 : d.extract 0 l.toArray.size = d := by rw [← hp.1]; simp
    have e2 : l.toArray.extract 0 l.toArray.size = l.toArray := by simp
    rw [e1, e2] at this
    simpa using this
  · rw [List.pairwise_iff_getElem]
    intro i j hi hj hij
    have hsz := hp.1
    have := hs i j (Nat.zero_le _) hij (by rw [← hsz]; simpa using hj)
    rw [ltS, getElem!_pos d j (by simpa using hj), getElem!_pos d i (by simpa using hi)] at this
    simp at this
    simpa using this
  · subst hw
    exact hr.sorted d (by simpa using hp.1) n os
theorem sort_none (A : Option Addr) (cap : Nat) (v : Value) (w : World) : Calls Try.prog 27 #[.slice A 0 cap, v] w fun e w' => e = .returned (.tuple #[]) ∧ w' = w := by
  have hcon := AnyF.slices_SortFunc_none Try.sortSpan A cap v w
  exact hcon
end Go.Proofs.Ytabmablgaifidaa.PGrain
