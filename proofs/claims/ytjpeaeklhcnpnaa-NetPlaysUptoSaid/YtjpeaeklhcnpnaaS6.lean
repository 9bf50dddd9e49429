/- What was seen, in memory; net.NewSeen, Fresh by contracts. No condition but small numbers. -/
import Derived.Test.YtjpeaeklhcnpnaaS5
namespace Go.Proofs.Ytjpeaeklhcnpnaa.K
open Go.RowKit
set_option linter.unusedVariables false
set_option linter.unusedSimpArgs false
/-- id among rising numbers. -/
def ins (id : Int) : List Int → List Int
  | [] => [id]
  | x :: r => if x < id then x :: ins id r else id :: x :: r
theorem ins_len (id : Int) : ∀ l : List Int, (ins id l).length = l.length + 1
  | [] => rfl
  | x :: r => by unfold ins; split <;> simp [ins_len id r]
theorem ins_place {id : Int} : ∀ {l : List Int} {i : Nat}, Place l id i → l.take i ++ id :: l.drop i = ins id l
  | [], i, h => by simp [ins]
  | x :: r, 0, h => by
    have := h.2.2 0 x rfl (Nat.le_refl _)
    simp [ins, show ¬ x < id by omega]
  | x :: r, i + 1, h => by
    have h0 := h.2.1 0 x rfl (by omega)
    have ih := ins_place (id := id) (l := r) (i := i) ⟨by have := h.1; simp at this; omega, fun j y hj hl => h.2.1 (j + 1) y hj (by omega), fun j y hj hl => h.2.2 (j + 1) y hj (by omega)⟩
    simp only [ins, h0, if_true, List.take_succ_cons, List.drop_succ_cons, List.cons_append, ih]
theorem mem_ins {id y : Int} : ∀ {l : List Int}, y ∈ ins id l ↔ y = id ∨ y ∈ l
  | [] => by simp [ins]
  | x :: r => by
    unfold ins
    split
    · simp [mem_ins (l := r)]
      constructor
      · rintro (h | h | h) <;> simp [h]
      · rintro (h | h | h) <;> simp [h]
    · simp
theorem ins_rises {id : Int} : ∀ {l : List Int}, l.Pairwise (· < ·) → id ∉ l → (ins id l).Pairwise (· < ·)
  | [], _, _ => by simp [ins]
  | x :: r, h, hn => by
    obtain ⟨h1, h2⟩ := List.pairwise_cons.1 h
    unfold ins
    split
    · rename_i hx
      refine List.pairwise_cons.2 ⟨fun y hy => ?_, ins_rises h2 (fun hm => hn (List.mem_cons_of_mem _ hm))⟩
      rcases mem_ins.1 hy with rfl | hy
      · exact hx
      · exact h1 y hy
    · rename_i hx
      have hne : id ≠ x := fun e => hn (by rw [e]; exact List.mem_cons_self)
      refine List.pairwise_cons.2 ⟨fun y hy => ?_, h⟩
      rcases List.mem_cons.1 hy with rfl | hy
      · omega
      · have := h1 y hy; omega
theorem place_zero {id : Int} {l : List Int} {i : Nat} (h : Place l id i) : i = 0 ↔ ∀ x ∈ l, id ≤ x := by
  constructor
  · rintro rfl x hx
    obtain ⟨j, hj⟩ := List.mem_iff_getElem?.1 hx
    exact h.2.2 j x hj (Nat.zero_le _)
  · intro ha
    rcases Nat.eq_zero_or_pos i with h0 | h0
    · exact h0
    · have hl : 0 < l.length := by have := h.1; omega
      have h1 := h.2.1 0 _ (List.getElem?_eq_getElem hl) h0
      have h2 := ha _ (List.getElem_mem hl)
      omega
/-- Is it fresh? -/
def freshB (most : Nat) (l : List Int) (id : Int) : Bool := decide (id ∉ l) && !(decide (l.length = most) && l.all fun x => decide (id ≤ x))
def freshL (most : Nat) (l : List Int) (id : Int) : List Int := if most < l.length + 1 then (ins id l).drop 1 else ins id l
/-- What is remembered of each sender. -/
def Rises (most : Nat) (M : Int → List Int) : Prop := ∀ k, (M k).Pairwise (· < ·) ∧ (M k).length ≤ most
def setM (M : Int → List Int) (k : Int) (l : List Int) : Int → List Int := fun k' => if k' = k then l else M k'
theorem rises_fresh {most : Nat} {M : Int → List Int} (h : Rises most M) (k id : Int) (hb : freshB most (M k) id = true) : Rises most (setM M k (freshL most (M k) id)) := by
  intro k'
  unfold setM
  by_cases e : k' = k
  · rw [if_pos e]
    simp only [freshB, Bool.and_eq_true, decide_eq_true_eq] at hb
    have h1 := ins_rises (h k).1 hb.1
    have h2 := ins_len id (M k)
    have h3 := (h k).2
    unfold freshL
    split
    · exact ⟨h1.sublist (List.drop_sublist _ _), by rw [List.length_drop]; omega⟩
    · exact ⟨h1, by omega⟩
  · rw [if_neg e]
    exact h k'
def nilSl : Value := .slice none 0 0
def SeenAt (w : World) (F : Nat → Prop) (b n most : Nat) (M : Int → List Int) : Prop :=
  ∃ (mb sz : Nat) (f : Int → Option Value) (G : Int → Nat → Prop), w.heap[b]? = some (.cells #[.int .i64 most, .map (some mb)] 96 (0, 0)) ∧ MapAt 3 .i64 w mb n sz f ∧ (∀ k, USl w (G k) ((f k).getD nilSl) (M k)) ∧
    (∀ k x, G k x → F x ∧ x ≠ b ∧ x ≠ mb) ∧ (∀ k k' x, G k x → G k' x → k = k') ∧ F mb ∧ ¬ F b
theorem SeenAt.chg {w w' : World} {F H : Nat → Prop} {b n most : Nat} {M : Int → List Int} (h : SeenAt w F b n most M) (hc : Chg w w' H) (hF : ∀ k, F k → ¬ H k) (hb : ¬ H b) : SeenAt w' F b n most M := by
  obtain ⟨mb, sz, f, G, h1, h2, h3, h4, h5, h6, h7⟩ := h
  exact ⟨mb, sz, f, G, hc.keeps h1 hb, h2.chg hc (hF mb h6), fun k => (h3 k).same (fun x hx hl => hc.block x hl (hF x (h4 k x hx).1)), h4, h5, h6, h7⟩
theorem SeenAt.mono {w : World} {F F' : Nat → Prop} {b n most : Nat} {M : Int → List Int} (h : SeenAt w F b n most M) (hF : ∀ k, F k → F' k) (hb : ¬ F' b) : SeenAt w F' b n most M := by
  obtain ⟨mb, sz, f, G, h1, h2, h3, h4, h5, h6, h7⟩ := h
  exact ⟨mb, sz, f, G, h1, h2, h3, fun k x hx => ⟨hF x (h4 k x hx).1, (h4 k x hx).2⟩, h5, hF mb h6, hb⟩
theorem USl.known {w : World} {F : Nat → Prop} {v : Value} {xs : List Int} (h : USl w F v xs) : USl w (fun k => F k ∧ k < w.heap.size) v xs := by
  rcases h with h | ⟨g, off, cap, rfl, h1, hr⟩
  · exact .inl h
  · exact .inr ⟨g, off, cap, rfl, ⟨h1, hr.lt⟩, hr⟩
theorem SeenAt.known {w : World} {F : Nat → Prop} {b n most : Nat} {M : Int → List Int} (h : SeenAt w F b n most M) : SeenAt w (fun k => F k ∧ k < w.heap.size) b n most M := by
  obtain ⟨mb, sz, f, G, h1, h2, h3, h4, h5, h6, h7⟩ := h
  exact ⟨mb, sz, f, fun k x => G k x ∧ x < w.heap.size, h1, h2, fun k => (h3 k).known, fun k x hx => ⟨⟨(h4 k x hx.1).1, hx.2⟩, (h4 k x hx.1).2⟩, fun k k' x hx hx' => h5 k k' x hx.1 hx'.1, ⟨h6, h2.lt⟩, fun h => h7 h.1⟩
theorem SeenAt.lt {w : World} {F : Nat → Prop} {b n most : Nat} {M : Int → List Int} (h : SeenAt w F b n most M) : b < w.heap.size := by
  obtain ⟨mb, sz, f, G, h1, h2⟩ := h
  exact blk_lt h1
theorem seen_made (w : World) (most : Nat) (m : Int) (hm : (most : Int) = m) : SeenAt ((w.alloc (.map #[] 0)).alloc (.cells #[.int .i64 m, .map (some w.heap.size)] 96)) (fun k => w.heap.size ≤ k ∧ k ≠ w.heap.size + 1) (w.heap.size + 1) 0 most (fun _ => []) := by
  subst hm
  have hs : (w.alloc (.map #[] 0)).heap.size = w.heap.size + 1 := by simp
  refine ⟨w.heap.size, 0, fun _ => none, fun _ _ => False, ?_, (MapAt.made 3 .i64 w).same ?_, fun k => .inl ⟨rfl, rfl⟩, fun k x h => h.elim, fun k k' x h => h.elim, ⟨Nat.le_refl _, by omega⟩, fun h => h.2 rfl⟩
  · rw [← hs]
    exact blk_new _ _
  · exact Below.heap_alloc _ _ _ (by rw [hs]; omega)
theorem newSeen_any (most : Int) (hm : (Lit.int .i64 most).wf = true) (w : World) : Calls Try.prog 24 #[.int .i64 most] w fun e w' => ∃ b : Nat, e = .returned (.pointer (some ⟨b, 0, none⟩)) ∧ w.heap.size ≤ b ∧ SeenAt w' (fun k => w.heap.size ≤ k ∧ k ≠ b) b 0 (max most 1).toNat (fun _ => []) ∧ Below w.heap.size w w' := by
  have hmm := @run_makeMap Try.prog
  by_cases h1 : most < 1
  · go_enter Try.func24, Try.ntmps24
    go_wp2
    go_ret
    exact ⟨_, rfl, Nat.le_succ _, seen_made w _ _ (by omega), (Below.alloc (Below.alloc (Below.refl _ w) (Nat.le_refl _) _) (by simp) _)⟩
  · go_enter Try.func24, Try.ntmps24
    go_wp2
    go_ret
    exact ⟨_, rfl, Nat.le_succ _, seen_made w _ _ (by omega), (Below.alloc (Below.alloc (Below.refl _ w) (Nat.le_refl _) _) (by simp) _)⟩
end Go.Proofs.Ytjpeaeklhcnpnaa.K
