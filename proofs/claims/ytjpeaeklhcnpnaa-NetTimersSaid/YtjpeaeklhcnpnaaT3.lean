/- The timers in memory; the order of two timers as the program's closure tells it. No condition. -/
import Derived.Test.YtjpeaeklhcnpnaaT2
namespace Go.Proofs.Ytjpeaeklhcnpnaa.K
open Go.RowKit Go.Sort
set_option linter.unusedVariables false
set_option linter.unusedSimpArgs false
/-- w' is W, some blocks and draws later. -/
structure Cls (W w' : World) : Prop where
  below : Below W.heap.size W w'
  drawn : W.drawn ≤ w'.drawn
theorem Cls.refl (W : World) : Cls W W := ⟨Below.refl _ W, Nat.le_refl _⟩
theorem Cls.drew {W V : World} (h : Cls W V) : Cls W V.drew := ⟨⟨h.below.os, h.below.tape, h.below.output, h.below.size, h.below.block⟩, Nat.le_succ_of_le h.drawn⟩
theorem Cls.alloc {W V : World} (h : Cls W V) (o : Obj) : Cls W (V.alloc o) := ⟨h.below.alloc h.below.size o, h.drawn⟩
theorem Cls.grow {W w' : World} (h : Cls W w') : ∃ q os, w' = Go.Sort.grow (W.drewN q) os := by
  refine ⟨w'.drawn - W.drawn, w'.heap.extract W.heap.size w'.heap.size, ?_⟩
  have hh : w'.heap = W.heap ++ w'.heap.extract W.heap.size w'.heap.size := by
    apply Array.ext_getElem?
    intro k
    by_cases hk : k < W.heap.size
    · rw [h.below.block k hk, Array.getElem?_append_left hk]
    · rw [Array.getElem?_append_right (by omega), Array.getElem?_extract]
      have hs := h.below.size
      by_cases hk2 : k < w'.heap.size
      · rw [if_pos (by omega), show W.heap.size + (k - W.heap.size) = k by omega]
      · rw [if_neg (by omega), Array.getElem?_eq_none (by omega)]
  obtain ⟨heap, tape, drawn, os, output⟩ := w'
  obtain ⟨heap0, tape0, drawn0, os0, output0⟩ := W
  have h1 := h.below.os
  have h2 := h.below.tape
  have h3 := h.below.output
  have h4 := h.drawn
  simp only at h1 h2 h3 h4 hh
  subst h1 h2 h3
  simp only [Go.Sort.grow, World.drewN]
  congr 1
  omega
/-- A timer's time. -/
def atOf (g : Int → Option Int) (k : Int) : Int := (g k).getD 0
/-- Timers: block tb holds the map mb, told by g. -/
structure TimAt (w : World) (tb mb n sz : Nat) (g : Int → Option Int) : Prop where
  box : w.heap[tb]? = some (.cells #[.map (some mb)] 103 (0, 0))
  map : MapAt 28 .u64 w mb n sz (fun k => (g k).map (Value.int .i64))
section
variable {w w' : World} {tb mb n sz : Nat} {g : Int → Option Int}
theorem TimAt.lt (h : TimAt w tb mb n sz g) : tb < w.heap.size := blk_lt h.box
theorem TimAt.cell (h : TimAt w tb mb n sz g) : w.cell? ⟨tb, 0, none⟩ = some (.map (some mb)) := by rw [blk_cell h.box]; rfl
theorem TimAt.chg {G : Nat → Prop} (h : TimAt w tb mb n sz g) (hc : Chg w w' G) (h1 : ¬ G tb) (h2 : ¬ G mb) : TimAt w' tb mb n sz g := ⟨(hc.block tb h.lt h1).trans h.box, h.map.chg hc h2⟩
theorem TimAt.cls (h : TimAt w tb mb n sz g) (hc : Cls w w') : TimAt w' tb mb n sz g := ⟨(hc.below.block tb h.lt).trans h.box, h.map.same (hc.below.block mb h.map.lt)⟩
theorem TimAt.look (h : TimAt w tb mb n sz g) {k : Int} (hw : (Lit.int .u64 k).wf = true) : (Instr.lookup 75 (.map (some mb)) (.int .u64 k) false).run Try.prog w = .ok (.int .i64 (atOf g k)) w := by
  have h1 := h.map.look und28 und75 (zero3 w) hw
  rw [h1]
  unfold atOf
  cases g k <;> rfl
end
/-- What cmp.Or says of two. -/
def orv (p q : Int) : Int := if p = 0 then q else p
theorem or44_new (V : World) (p q : Int) : Calls Try.prog 44 #[.slice (some ⟨V.heap.size, 0, none⟩) 2 2] (V.alloc (.cells #[.int .i64 p, .int .i64 q] 3)).drew fun e w' => e = .returned (.int .i64 (orv p q)) ∧ w' = (V.alloc (.cells #[.int .i64 p, .int .i64 q] 3)).drew :=
  or44 (by show World.cell? (V.alloc _) _ = _; rw [blk_cell (blk_new V _)]; rfl) (by show World.cell? (V.alloc _) _ = _; rw [blk_cell (blk_new V _)]; rfl)
/-- The program's order of two timers. -/
def tcf (g : Int → Option Int) (x y : Int) : Int := orv (ord (atOf g x) (atOf g y)) (ord x y)
set_option maxHeartbeats 4000000 in
set_option maxRecDepth 100000 in
theorem cmp43 {W : World} {tb mb n sz B2 : Nat} {g : Int → Option Int} (h : TimAt W tb mb n sz g) (h2 : W.cell? ⟨B2, 0, none⟩ = some (.pointer (some ⟨tb, 0, none⟩))) {x y : Int} (hx : (Lit.int .u64 x).wf = true) (hy : (Lit.int .u64 y).wf = true) :
    Calls Try.prog 43 #[.int .u64 x, .int .u64 y, .pointer (some ⟨B2, 0, none⟩)] W fun e w' => e = .returned (.int .i64 (tcf g x y)) ∧ Cls W w' := by
  have hB : B2 < W.heap.size := by
    obtain ⟨o, ho, _⟩ := not_walk_of_cell h2
    exact (Array.getElem?_eq_some_iff.1 ho).1
  have hS : ∀ V, Cls W V → Cls W V ∧ V.cell? ⟨B2, 0, none⟩ = some (.pointer (some ⟨tb, 0, none⟩)) ∧ V.cell? ⟨tb, 0, none⟩ = some (.map (some mb)) ∧
      (Instr.lookup 75 (.map (some mb)) (.int .u64 x) false).run Try.prog V = .ok (.int .i64 (atOf g x)) V ∧ (Instr.lookup 75 (.map (some mb)) (.int .u64 y) false).run Try.prog V = .ok (.int .i64 (atOf g y)) V := fun V hV =>
    ⟨hV, (World.cell?_of_block (a := ⟨B2, 0, none⟩) (hV.below.block B2 hB)).trans h2, (h.cls hV).cell, (h.cls hV).look hx, (h.cls hV).look hy⟩
  have hW := Cls.refl W
  unfold tcf
  clear h h2 hx hy
  go_enter Try.func43, Try.ntmps43
  go_wp2_with fail
  go_region_held3 (fun V : World => Cls W V ∧ V.cell? ⟨B2, 0, none⟩ = some (.pointer (some ⟨tb, 0, none⟩)) ∧ V.cell? ⟨tb, 0, none⟩ = some (.map (some mb)) ∧
      (Instr.lookup 75 (.map (some mb)) (.int .u64 x) false).run Try.prog V = .ok (.int .i64 (atOf g x)) V ∧ (Instr.lookup 75 (.map (some mb)) (.int .u64 y) false).run Try.prog V = .ok (.int .i64 (atOf g y)) V)
    (first | exact hS _ (Cls.alloc (by go_split_ands; assumption) _) | exact hS _ (Cls.drew (by go_split_ands; assumption)) | exact hS _ (by go_split_ands; assumption))
    (first
      | (go_at_call 45; refine (cmp45 _ _ _).mono ?_; rintro e w' ⟨rfl, hw⟩; obtain rfl := hw.symm)
      | (go_at_call 46; refine (cmp46 _ _ _).mono ?_; rintro e w' ⟨rfl, hw⟩; obtain rfl := hw.symm)
      | (go_at_call 44; refine (or44_new _ _ _).mono ?_; rintro e w' ⟨rfl, hw⟩; obtain rfl := hw.symm))
  all_goals
    go_wp2
    go_ret
    exact ⟨rfl, by go_split_ands; assumption⟩
end Go.Proofs.Ytjpeaeklhcnpnaa.K
