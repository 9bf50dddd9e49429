/- The contract of slices.Clone over texts: no condition but that the texts fit into memory. -/
import Derived.Test.YtddjbhphhhdnfaaF4
import Derived.Lib.SliceRun
namespace Go.Proofs.Ytddjbhphhhdnfaa.K
open Go.RowKit
set_option linter.unusedVariables false
set_option linter.unusedSimpArgs false

def New (w : World) : Nat → Prop := fun k => w.heap.size ≤ k
theorem Kd.Own_made {α : Type} (d : Kd α) (e : TypeId) (w : World) (F : Nat → Prop) (base : Nat) (hb : base ≤ w.heap.size) (hF : F w.heap.size) : d.Own e (w.alloc (.cells #[] e)) F base (.slice (some ⟨w.heap.size, 0, none⟩) 0 0) [] :=
  ⟨fun k hk => by
    have : w.heap.size = k := by simpa [Value.ownBlock] using hk
    exact this ▸ hF, [], World.ownsRow_made w #[] 0 hb (Nat.zero_le _) (by simp), fun j p hj => by simp at hj⟩
theorem Try.info9 : (Try.prog.info? 9).map (fun i => (i.zero, i.size, i.bytes)) = some (some (.string ⟨#[]⟩), 1, 16) := by kernel_rfl

set_option maxHeartbeats 2000000 in
theorem clone_any (xs : List ByteArray) (A : Option Addr) (c : Nat) (w : World) (h : Kd.string.C w Any A xs.length xs) (hl : xs.length * 16 ≤ 140737488355328) :
    Calls Try.prog 41 #[.slice A xs.length c] w fun e w' => ∃ A' c', e = .returned (.slice A' xs.length c') ∧ xs.length ≤ c' ∧ Kd.string.C w' (New w) A' xs.length xs ∧ Below w.heap.size w w' := by
  have hn := h.2.1
  have HC := Aside.mk h
  have he := Lib.run_eql_slice_nil (P := Try.prog) w 22 _ A xs.length c 0 0 Try.underlying22
  cases A with
  | none =>
    have h0 : xs = [] := by
      rcases Nat.eq_zero_or_pos xs.length with h0 | h0
      · exact List.eq_nil_of_length_eq_zero h0
      · obtain ⟨ad, h, _⟩ := h.2.2 h0; cases h
    subst h0
    clear h
    simp only [List.length_nil, Option.isNone_none] at he
    go_enter Try.func41, Try.ntmps41
    go_wp2
    go_ret
    exact ⟨none, 0, rfl, Nat.le_refl _, Kd.C_nil' _ _ _ _, Below.refl _ _⟩
  | some ad =>
    clear h
    simp only [Option.isNone_some] at he
    go_enter Try.func41, Try.ntmps41
    go_wp2_with (at_builtin; go_must (refine Kd.append_rowE Kd.string (W := w.alloc (.cells #[] 9)) w.heap.size rfl (.tmp 5) (.tmp 6) 22 9 (.string ⟨#[]⟩) 16 rfl Try.underlying22 Try.info9 rfl (by decide) (by decide) (.slice (some ⟨w.heap.size, 0, none⟩) 0 0) [] xs (some ad) xs.length c (New w) Any (fun _ => False) rfl rfl (Kd.Own_made Kd.string 9 w _ _ (Nat.le_refl _) (Nat.le_refl _)) (Kd.C_below HC.out (below_alloc (Below.refl _ _) _)) (fun _ _ _ h => h) (fun _ h => h.elim) ?fresh ?base ?len ?next))
    case fresh => intro k hk; simp at hk; simp only [New]; omega
    case base => simp
    case len => simpa using hl
    case next =>
      intro v1 w1 hown hg hat
      have hb1 : Below w.heap.size w w1 := (below_alloc (Below.refl _ w) _).grown hg (by simp) (fun k hk => by simp [Value.ownBlock] at hk; omega)
      obtain ⟨A', c', rfl, hc', hC⟩ := Kd.Own_C hown
      clear hg hat hown
      go_wp2
      go_ret
      exact ⟨A', c', rfl, hc', hC, hb1⟩
end Go.Proofs.Ytddjbhphhhdnfaa.K
