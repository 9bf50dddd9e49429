/- A filter turned, or rid of its Nots, as a plain function; laws of results that are filters. No condition. -/
import Derived.Test.YtddjbhphhhdnfaaG3
import Derived.Test.YtddjbhphhhdnfaaF5
import Derived.Test.YtddjbhphhhdnfaaF12
namespace Go.Proofs.Ytddjbhphhhdnfaa.K
open Go.RowKit
set_option linter.unusedVariables false
set_option linter.unusedSimpArgs false

/-- Turned (n), or rid of the Nots above And, Or, Not. -/
def turnF (n : Bool) (x : Filter) : Filter :=
  if n = true ∧ 200 < sizeF x then zFilter
  else if x.Kind = 2 then ((kidsOf x).attach.map fun k => turnF (!n) k.1).headD (if n then ⟨2, 0, [], 0, 0, [bareF x]⟩ else bareF x)
  else if x.Kind = 3 ∨ x.Kind = 4 then ⟨if n then 7 - x.Kind else x.Kind, 0, [], 0, 0, (kidsOf x).attach.map fun k => turnF n k.1⟩
  else if n then ⟨2, 0, [], 0, 0, [bareF x]⟩ else bareF x
termination_by ht x
decreasing_by all_goals exact ht_kid k.2
theorem map_attach {α β : Type} (l : List α) (f : α → β) : (l.attach.map fun k => f k.1) = l.map f := by
  rw [← List.attach_map_subtype_val l, List.map_map]
  simp [Function.comp_def]
theorem turnF_eq (n : Bool) (x : Filter) : turnF n x =
    if n = true ∧ 200 < sizeF x then zFilter
    else if x.Kind = 2 then ((kidsOf x).map (turnF (!n))).headD (if n then ⟨2, 0, [], 0, 0, [bareF x]⟩ else bareF x)
    else if x.Kind = 3 ∨ x.Kind = 4 then ⟨if n then 7 - x.Kind else x.Kind, 0, [], 0, 0, (kidsOf x).map (turnF n)⟩
    else if n then ⟨2, 0, [], 0, 0, [bareF x]⟩ else bareF x := by
  rw [turnF, map_attach (kidsOf x) (turnF (!n)), map_attach (kidsOf x) (turnF n)]

/-- What turning some filters is known to give. -/
def TurnAt (ks : List Filter) : Prop := ∀ k ∈ ks, ∀ (n : Bool) cs W, kFilter.K W Any k cs → Calls Try.prog (if n then 13 else 28) #[.agg cs.toArray] W (Gives (turnF n k) W)

theorem K_set {w : World} {F : Nat → Prop} {x : Filter} {cs : List Value} {a : Addr} {v : Value} (h : kFilter.K w F x cs) (hne : ∀ k, F k → k ≠ a.block) : kFilter.K (w.setCell a v) F x cs := kFilter.move (fun k hk _ => set_other (hne k hk)) h
theorem gives6 {w W w2 : World} {B : Nat} {y : Filter} {cs : List Value} {v0 v1 v2 v3 v4 v5 : Value} (h1 : w.heap.size ≤ B) (h2 : B < W.heap.size) (HB : Below w.heap.size w w2) (hK : kFilter.K w2 (New W) y cs) :
    kFilter.K ((((((w2.setCell ⟨B, 0, none⟩ v0).setCell ⟨B, 1, none⟩ v1).setCell ⟨B, 2, none⟩ v2).setCell ⟨B, 3, none⟩ v3).setCell ⟨B, 4, none⟩ v4).setCell ⟨B, 5, none⟩ v5) (New w) y cs ∧
    Below w.heap.size w ((((((w2.setCell ⟨B, 0, none⟩ v0).setCell ⟨B, 1, none⟩ v1).setCell ⟨B, 2, none⟩ v2).setCell ⟨B, 3, none⟩ v3).setCell ⟨B, 4, none⟩ v4).setCell ⟨B, 5, none⟩ v5) := by
  have hne : ∀ k, New W k → k ≠ B := fun k hk => by have : W.heap.size ≤ k := hk; omega
  refine ⟨kFilter.mono (F := New W) (fun k hk => ?_) ?_, ?_⟩
  · have : W.heap.size ≤ k := hk
    show w.heap.size ≤ k
    omega
  · exact K_set (K_set (K_set (K_set (K_set (K_set hK hne) hne) hne) hne) hne) hne
  · exact below_set (below_set (below_set (below_set (below_set (below_set HB h1) h1) h1) h1) h1) h1
theorem C_one {α : Type} {d : Kd α} {w : World} {F : Nat → Prop} {x : α} {cs : List Value} (e : TypeId) (h : d.K w F x cs) (hF : F w.heap.size) : d.C (w.alloc (.cells cs.toArray e)) F (some ⟨w.heap.size, 0, none⟩) 1 [x] := by
  refine ⟨rfl, by omega, fun _ => ⟨_, rfl, hF, by simp, fun j p hj => ?_⟩⟩
  have hj0 : j = 0 := by
    cases j with
    | zero => rfl
    | succ j => simp at hj
  subst hj0
  have hp : x = p := by simpa using hj
  subst hp
  refine ⟨cs, d.below h (below_alloc (Below.refl _ w) _), fun i u hu => ?_⟩
  have ha : (⟨w.heap.size, 0, none⟩ : Addr).add (0 * d.sz + i) = ⟨w.heap.size, i, none⟩ := by simp [Addr.add]; omega
  rw [ha, World.cell?_alloc_at _ _ _ _ rfl]
  simpa using hu
theorem kids_le (x : Filter) (h : x.Kids.length * 80 ≤ 140737488355328) : (kidsOf x).length * 80 ≤ 140737488355328 := by
  have : (kidsOf x).length ≤ x.Kids.length := by
    unfold kidsOf
    split
    · rw [List.length_take]; omega
    · split
      · exact Nat.le_refl _
      · simp
  omega
theorem each_to (g : Nat) (eg : ∀ args w, (callFunc g args).run Try.prog w = .ok (.enter g args) w) (fn : Filter → Filter) (x : Filter) (cs : List Value) (w : World) (h : kFilter.K w Any x cs)
    (hg : ∀ k ∈ kidsOf x, ∀ cs W, kFilter.K W Any k cs → Calls Try.prog g #[.agg cs.toArray] W (Gives (fn k) W)) :
    Calls Try.prog 30 #[.agg cs.toArray, .func (.func g) #[] #[]] w fun e w' => ∃ (ys : List Filter) (A : Option Addr) (c : Nat), e = .returned (.slice A ys.length c) ∧ ys = (kidsOf x).map fn ∧ ys.length ≤ c ∧ ys.length * 80 ≤ 140737488355328 ∧ kFilter.C w' (New w) A ys.length ys ∧ Below w.heap.size w w' := by
  have hkl : (kidsOf x).length * 80 ≤ 140737488355328 := by
    obtain ⟨_, _, _, _, _, _, _, _, _, _, h5⟩ := kFilter_open h
    exact kids_le x h5.2.1
  refine (each_any g eg fn x cs w h hg).mono ?_
  rintro e w' ⟨A, c, rfl, hc, hC, hb⟩
  have hl : ((kidsOf x).map fn).length = (kidsOf x).length := by simp
  exact ⟨_, A, c, by rw [hl], rfl, by rw [hl]; exact hc, by rw [hl]; exact hkl, by rw [hl]; exact hC, hb⟩
theorem kidsFilter {w : World} {F : Nat → Prop} {ys : List Filter} {A : Option Addr} {c : Nat} (k : Int) (hk : (Lit.int .i64 k).wf = true) (h0 : ys.length ≤ c) (h1 : ys.length * 80 ≤ 140737488355328) (hC : kFilter.C w F A ys.length ys) : kFilter.K w F ⟨k, 0, [], 0, 0, ys⟩ [.int .i64 k, .int .i64 0, .slice none 0 0, .int .i64 0, .int .i64 0, .slice A ys.length c] :=
  kFilter_mk w F ⟨k, 0, [], 0, 0, ys⟩ hk rfl (nilTexts _ _) rfl rfl ⟨h0, h1, hC⟩
end Go.Proofs.Ytddjbhphhhdnfaa.K
