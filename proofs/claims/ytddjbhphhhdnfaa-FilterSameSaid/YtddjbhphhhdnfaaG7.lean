/- A small filter and what is said of it; rows of one or two elements. No condition. -/
import Derived.Test.YtddjbhphhhdnfaaG6
namespace Go.Proofs.Ytddjbhphhhdnfaa.K
open Go.RowKit
set_option linter.unusedVariables false
set_option linter.unusedSimpArgs false

theorem C_cells1 {α : Type} {d : Kd α} {w : World} {F : Nat → Prop} {x : α} {cs : List Value} {g : Nat} {e : TypeId} (hg : w.heap[g]? = some (.cells cs.toArray e (0, 0))) (h : d.K w F x cs) (hF : F g) : d.C w F (some ⟨g, 0, none⟩) 1 [x] := by
  refine ⟨rfl, by omega, fun _ => ⟨_, rfl, hF, blk_lt hg, fun j p hj => ?_⟩⟩
  have hj0 : j = 0 := by
    cases j with
    | zero => rfl
    | succ j => simp at hj
  subst hj0
  have hp : x = p := by simpa using hj
  subst hp
  refine ⟨cs, h, fun i u hu => ?_⟩
  have ha : (⟨g, 0, none⟩ : Addr).add (0 * d.sz + i) = ⟨g, i, none⟩ := by simp [Addr.add]; omega
  rw [ha, blk_cell hg]
  simpa using hu
theorem C_cells2 {α : Type} {d : Kd α} {w : World} {F : Nat → Prop} {x y : α} {cs ds : List Value} {g : Nat} {e : TypeId} (hg : w.heap[g]? = some (.cells (cs ++ ds).toArray e (0, 0))) (h : d.K w F x cs) (h2 : d.K w F y ds) (hF : F g) : d.C w F (some ⟨g, 0, none⟩) 2 [x, y] := by
  have hl := d.len h
  refine ⟨rfl, by omega, fun _ => ⟨_, rfl, hF, blk_lt hg, fun j p hj => ?_⟩⟩
  have ha : ∀ m, (⟨g, 0, none⟩ : Addr).add m = ⟨g, m, none⟩ := fun m => by simp [Addr.add]; omega
  cases j with
  | zero =>
    have hp : x = p := by simpa using hj
    subst hp
    refine ⟨cs, h, fun i u hu => ?_⟩
    have hi := (List.getElem?_eq_some_iff.1 hu).1
    rw [ha, blk_cell hg, Nat.zero_mul, Nat.zero_add]
    simp [List.getElem?_append_left hi, hu]
  | succ j =>
    cases j with
    | zero =>
      have hp : y = p := by simpa using hj
      subst hp
      refine ⟨ds, h2, fun i u hu => ?_⟩
      rw [ha, blk_cell hg]
      simp [← hl, List.getElem?_append_right, hu]
    | succ j => simp at hj

def txA : ByteArray := ⟨#[97]⟩
def exIs : Filter := ⟨5, 0, [txA], 0, 0, []⟩
def exAll : Filter := ⟨1, 0, [], 0, 0, []⟩
def exF : Filter := ⟨4, 0, [], 0, 0, [exIs, ⟨2, 0, [], 0, 0, [exAll]⟩]⟩
def exN : Filter := ⟨3, 0, [], 0, 0, [⟨2, 0, [], 0, 0, [exIs]⟩, exAll]⟩
def exX : Fact := ⟨0, [txA], []⟩
def exNotAll : Filter := ⟨2, 0, [], 0, 0, [exAll]⟩
def exNotIs : Filter := ⟨2, 0, [], 0, 0, [exIs]⟩
theorem kids_exIs : kidsOf exIs = [] := by simp [kidsOf, exIs]
theorem kids_exAll : kidsOf exAll = [] := by simp [kidsOf, exAll]
theorem kids_exNotAll : kidsOf exNotAll = [exAll] := by simp [kidsOf, exNotAll]
theorem kids_exNotIs : kidsOf exNotIs = [exIs] := by simp [kidsOf, exNotIs]
theorem kids_exF : kidsOf exF = [exIs, exNotAll] := by simp [kidsOf, exF, exNotAll]
theorem kids_exN : kidsOf exN = [exNotIs, exAll] := by simp [kidsOf, exN, exNotIs]
theorem size_exIs : size exIs = 1 := by rw [size_eq, kids_exIs]; rfl
theorem size_exAll : size exAll = 1 := by rw [size_eq, kids_exAll]; rfl
theorem size_exNotAll : size exNotAll = 2 := by rw [size_eq, kids_exNotAll]; simp [sizes, size_exAll]
theorem size_exF : size exF = 4 := by rw [size_eq, kids_exF]; simp [sizes, size_exIs, size_exNotAll]
theorem sizeF_exF : sizeF exF = 4 := by unfold sizeF; rw [size_exF]; rfl
theorem sizeF_exIs : sizeF exIs = 1 := by unfold sizeF; rw [size_exIs]; rfl
theorem sizeF_exNotAll : sizeF exNotAll = 2 := by unfold sizeF; rw [size_exNotAll]; rfl
theorem bare_exIs : bareF exIs = exIs := by simp [bareF, exIs]
theorem bare_exAll : bareF exAll = exAll := by simp [bareF, exAll]
theorem turn_exIs : turnF true exIs = exNotIs := by
  rw [turnF_eq, sizeF_exIs, if_neg (by omega), if_neg (by simp [exIs]), if_neg (by simp [exIs]), bare_exIs]; rfl
theorem turn_exAll : turnF false exAll = exAll := by
  rw [turnF_eq, if_neg (by simp), if_neg (by simp [exAll]), if_neg (by simp [exAll]), bare_exAll]; rfl
theorem turn_exNotAll : turnF true exNotAll = exAll := by
  rw [turnF_eq, sizeF_exNotAll, if_neg (by omega), if_pos (by simp [exNotAll]), kids_exNotAll]; simp [turn_exAll]
theorem turn_exF : turnF true exF = exN := by
  rw [turnF_eq, sizeF_exF, if_neg (by omega), if_neg (by simp [exF]), if_pos (.inr rfl), kids_exF]; simp [turn_exIs, turn_exNotAll, exF, exN, exNotIs]
theorem holds_exIs : holdsF exX exIs = true := by
  rw [holdsF_eq, if_neg (by simp [exIs]), if_neg (by simp [exIs]), if_neg (by simp [exIs]), if_neg (by simp [exIs])]
  simp [leafH, exIs, exX, dimT, isText, txA]
theorem holds_exNotIs : holdsF exX exNotIs = false := by
  rw [holdsF_eq, if_neg (by simp [exNotIs]), if_pos (by simp [exNotIs]), kids_exNotIs]
  simp [holds_exIs]
theorem holds_exF : holdsF exX exF = true := by
  rw [holdsF_eq, if_neg (by simp [exF]), if_neg (by simp [exF]), if_neg (by simp [exF]), if_pos (by simp [exF]), kids_exF]
  simp [holds_exIs]
theorem holds_exN : holdsF exX exN = false := by
  rw [holdsF_eq, if_neg (by simp [exN]), if_neg (by simp [exN]), if_pos (by simp [exN]), kids_exN]
  simp [holds_exNotIs]
theorem all_leaf (fine : Filter → Int → Bool) (x : Filter) (d : Int) (h : kidsOf x = []) : allF fine x d = fine x d := by rw [allF_eq, h]; simp
theorem ok_exF : okF 1 0 exF = true := by
  unfold okF
  rw [size_exF, allF_eq, kids_exF]
  simp only [List.all_cons, List.all_nil, Bool.and_true]
  rw [all_leaf _ exIs _ kids_exIs, allF_eq _ exNotAll, kids_exNotAll]
  simp only [List.all_cons, List.all_nil, Bool.and_true]
  rw [all_leaf _ exAll _ kids_exAll]
  simp [fineC, partOf, exF, exIs, exNotAll, exAll, txA, long]; try decide
theorem ok_exF0 : okF 0 0 exF = false := by
  unfold okF
  rw [size_exF, allF_eq, kids_exF]
  simp only [List.all_cons, List.all_nil, Bool.and_true]
  rw [all_leaf _ exIs _ kids_exIs]
  simp [fineC, partOf, exF, exIs, exNotAll, exAll, txA, long]; try decide
end Go.Proofs.Ytddjbhphhhdnfaa.K
