/- The order of timers is a strict order; the world behind the sort. No condition. -/
import Derived.Test.YtjpeaeklhcnpnaaT3
namespace Go.Proofs.Ytjpeaeklhcnpnaa.K
open Go.RowKit Go.Sort Go.Shelf
set_option linter.unusedVariables false
set_option linter.unusedSimpArgs false
theorem ord_neg {x y : Int} : ord x y < 0 ↔ x < y := by
  unfold ord
  by_cases h : x < y
  · simp [h]
  · by_cases h2 : y < x
    · simp [h, h2]
    · simp [h, h2]
theorem ord_zero {x y : Int} : ord x y = 0 ↔ x = y := by
  unfold ord
  by_cases h : x < y
  · simp [h]; omega
  · by_cases h2 : y < x
    · simp [h, h2]; omega
    · simp [h, h2]; omega
/-- Timer x is ahead of timer y. -/
def TLt (g : Int → Option Int) (x y : Int) : Prop := atOf g x < atOf g y ∨ (atOf g x = atOf g y ∧ x < y)
theorem tcf_neg {g : Int → Option Int} {x y : Int} : tcf g x y < 0 ↔ TLt g x y := by
  unfold tcf orv TLt
  by_cases h : ord (atOf g x) (atOf g y) = 0
  · rw [if_pos h, ord_neg]
    have := ord_zero.1 h
    omega
  · rw [if_neg h, ord_neg]
    have : ¬ atOf g x = atOf g y := fun e => h (ord_zero.2 e)
    omega
def M64 : Int := 18446744073709551616
/-- A number as the sort's row holds it: of whatever Int the one in uint64's range. -/
def encM (x : Int) : Value := .int .u64 (x % M64)
def cfM (g : Int → Option Int) (x y : Int) : Int := tcf g (x % M64) (y % M64)
theorem encM_one : OneCell encM := fun x => rfl
theorem wf_u64 {n : Int} (h : (Lit.int .u64 n).wf = true) : 0 ≤ n ∧ n ≤ 18446744073709551615 := by
  simp only [Lit.wf, Bool.and_eq_true, decide_eq_true_eq] at h
  exact h
theorem modM_wf (x : Int) : (Lit.int .u64 (x % M64)).wf = true := u64_wf (by unfold M64; omega) (by unfold M64; omega)
theorem modM_of_wf {x : Int} (h : (Lit.int .u64 x).wf = true) : x % M64 = x := by
  have := wf_u64 h
  unfold M64
  omega
theorem cfM_swo (g : Int → Option Int) : SWO (ltOf (cfM g)) := by
  have key : ∀ x y, ltOf (cfM g) x y = true ↔ TLt g (x % M64) (y % M64) := fun x y => by unfold ltOf cfM; rw [decide_eq_true_iff]; exact tcf_neg
  have key2 : ∀ x y, ltOf (cfM g) x y = false ↔ ¬ TLt g (x % M64) (y % M64) := fun x y => by rw [← key, Bool.not_eq_true]
  refine ⟨fun x => (key2 x x).2 ?_, fun x y z h1 h2 => (key x z).2 ?_, fun x y z h1 h2 => (key2 x z).2 ?_⟩
  · unfold TLt; omega
  · have h1 := (key x y).1 h1
    have h2 := (key y z).1 h2
    unfold TLt at *
    omega
  · have h1 := (key2 x y).1 h1
    have h2 := (key2 y z).1 h2
    unfold TLt at *
    omega
section
variable {w : World} {b off n : Nat} {d : Array Int} {os : Array Obj} {enc : Int → Value}
theorem sortWorld_grown : w.grownBy (sortWorld enc w b off n d os) (some b) := by
  refine ⟨rfl, rfl, rfl, by simp [sortWorld], fun k hk hne => ?_⟩
  unfold sortWorld
  rw [heap_grow_old _ _ (by simpa using hk)]
  have : b ≠ k := fun e => hne (by rw [e])
  simp [putRow, mapBlock, Go.Sort.ahead, Array.getElem?_modify, this]
theorem sortWorld_block {cur : Array Value} {e : TypeId} {fr : Nat × Nat} (hb : w.heap[b]? = some (.cells cur e fr)) : (sortWorld enc w b 0 n d os).heap[b]? = some (.cells (putCells enc 0 d cur) e fr) := by
  have hg : b < w.heap.size := (Array.getElem?_eq_some_iff.1 hb).1
  unfold sortWorld
  rw [heap_grow_old _ _ (by simpa using hg)]
  simp [putRow, mapBlock, Go.Sort.ahead, Array.getElem?_modify, hb, onCells]
end
end Go.Proofs.Ytjpeaeklhcnpnaa.K
