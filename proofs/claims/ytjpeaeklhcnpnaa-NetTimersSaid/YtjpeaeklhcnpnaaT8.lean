/- net.NewTimers, Set, Stop and Due by contracts. No condition but that the timers are few. -/
import Derived.Test.YtjpeaeklhcnpnaaT7
namespace Go.Proofs.Ytjpeaeklhcnpnaa.K
open Go.RowKit Go.Sort
set_option linter.unusedVariables false
set_option linter.unusedSimpArgs false
theorem newTimers_any (w : World) : Calls Try.prog 30 #[] w fun e w' => e = .returned (.pointer (some ⟨w.heap.size + 1, 0, none⟩)) ∧ TimAt w' (w.heap.size + 1) w.heap.size 0 0 (fun _ => none) ∧ Below w.heap.size w w' := by
  have hmm := @run_makeMap Try.prog
  go_enter Try.func30, Try.ntmps30
  go_wp2
  go_ret
  refine ⟨by simp, ⟨?_, (MapAt.made 28 .u64 w).same (Below.heap_alloc _ _ _ (by simp))⟩, below_alloc (below_alloc (Below.refl _ _) _) _⟩
  have := blk_new (w.alloc (.map #[] 0)) (.cells #[.map (some w.heap.size)] 103)
  simpa using this
/-- A timer set. -/
def gset (g : Int → Option Int) (id at_ : Int) : Int → Option Int := fun k => if k = id then some at_ else g k
/-- A timer taken out. -/
def gdrop (g : Int → Option Int) (id : Int) : Int → Option Int := fun k => if k = id then none else g k
section
variable {w : World} {tb mb n sz : Nat} {g : Int → Option Int}
theorem TimAt.ne (h : TimAt w tb mb n sz g) : tb ≠ mb := by
  rintro rfl
  obtain ⟨D, ⟨es, clock, h1, _⟩, _⟩ := h.map
  rw [h.box] at h1
  cases h1
theorem TimAt.turn {w' : World} (h : TimAt w tb mb n sz g) {n' sz' : Nat} {f : Int → Option Value} {g' : Int → Option Int} (hm : MapAt 28 .u64 w' mb n' sz' f) (hf : f = fun k => (g' k).map (Value.int .i64)) (hg : w.grownBy w' (some mb)) : TimAt w' tb mb n' sz' g' ∧ Chg w w' (fun k => k = mb) :=
  ⟨⟨(hg.block tb h.lt (fun e => h.ne (Option.some.inj e))).trans h.box, hf ▸ hm⟩, Chg.grown (Chg.refl w _) hg (fun b hb => .inl (Option.some.inj hb).symm)⟩
theorem TimAt.put (h : TimAt w tb mb n sz g) {id at_ : Int} (hw : (Lit.int .u64 id).wf = true) (hn : n < 9223372036854775807) :
    ∃ w' sz', (Instr.mapUpdate 75 (.map (some mb)) (.int .u64 id) (.int .i64 at_)).run Try.prog w = .ok () w' ∧ sz' ≤ sz + 1 ∧ TimAt w' tb mb (n + 1) sz' (gset g id at_) ∧ Chg w w' (fun k => k = mb) := by
  obtain ⟨w', h1, h2, h3⟩ := h.map.put und28 und75 hn hw (.int .i64 at_)
  rw [Option.isSome_map] at h2
  obtain ⟨h4, h5⟩ := h.turn (g' := gset g id at_) h2 (by funext k; unfold gset; by_cases e : k = id <;> simp [e]) h3
  exact ⟨w', _, h1, by split <;> omega, h4, h5⟩
theorem TimAt.drop (h : TimAt w tb mb n sz g) {id : Int} (hw : (Lit.int .u64 id).wf = true) (ty : TypeId) :
    ∃ w' sz', (Builtin.delete_ #[75, 28] ty #[.map (some mb), .int .u64 id]).run Try.prog w = .ok (.tuple #[]) w' ∧ sz' ≤ sz ∧ TimAt w' tb mb n sz' (gdrop g id) ∧ Chg w w' (fun k => k = mb) := by
  obtain ⟨w', h1, h2, h3⟩ := h.map.drop und28 und75 hw ty
  rw [Option.isSome_map] at h2
  obtain ⟨h4, h5⟩ := h.turn (g' := gdrop g id) h2 (by funext k; unfold gdrop; by_cases e : k = id <;> simp [e]) h3
  exact ⟨w', _, h1, by split <;> omega, h4, h5⟩
set_option maxRecDepth 100000 in
set_option maxHeartbeats 4000000 in
theorem set_any (h : TimAt w tb mb n sz g) {id at_ : Int} (hw : (Lit.int .u64 id).wf = true) (hn : n < 9223372036854775807) :
    Calls Try.prog 27 #[.pointer (some ⟨tb, 0, none⟩), .int .u64 id, .int .i64 at_] w fun e w' => e = .returned (.tuple #[]) ∧ ∃ sz', sz' ≤ sz + 1 ∧ TimAt w' tb mb (n + 1) sz' (gset g id at_) ∧ Chg w w' (fun k => k = mb) := by
  have hc := h.cell
  obtain ⟨w', sz', h1, h0, h2, h3⟩ := h.put (at_ := at_) hw hn
  have H : Aside (∃ sz', sz' ≤ sz + 1 ∧ TimAt w' tb mb (n + 1) sz' (gset g id at_) ∧ Chg w w' (fun k => k = mb)) := ⟨⟨sz', h0, h2, h3⟩⟩
  clear h h0 h2 h3 hw
  go_enter Try.func27, Try.ntmps27
  go_wp2
  exact bodyPost_end (results_none rfl _ _ _) rfl ⟨rfl, H.out⟩
set_option maxRecDepth 100000 in
set_option maxHeartbeats 4000000 in
theorem stop_any (h : TimAt w tb mb n sz g) {id : Int} (hw : (Lit.int .u64 id).wf = true) :
    Calls Try.prog 28 #[.pointer (some ⟨tb, 0, none⟩), .int .u64 id] w fun e w' => e = .returned (.bool (g id).isSome) ∧ ∃ sz', sz' ≤ sz ∧ TimAt w' tb mb n sz' (gdrop g id) ∧ Chg w w' (fun k => k = mb) := by
  have hc := h.cell
  have hl := h.map.look_ok und28 und75 (zero3 w) hw
  rw [Option.isSome_map] at hl
  obtain ⟨w', sz', h1, h0, h2, h3⟩ := h.drop hw 0
  have H : Aside (∃ sz', sz' ≤ sz ∧ TimAt w' tb mb n sz' (gdrop g id) ∧ Chg w w' (fun k => k = mb)) := ⟨⟨sz', h0, h2, h3⟩⟩
  generalize hb : (g id).isSome = b at hl ⊢
  clear h h0 h2 h3 hw hb
  go_enter Try.func28, Try.ntmps28
  go_wp2
  go_ret
  exact ⟨rfl, H.out⟩
end
end Go.Proofs.Ytjpeaeklhcnpnaa.K
