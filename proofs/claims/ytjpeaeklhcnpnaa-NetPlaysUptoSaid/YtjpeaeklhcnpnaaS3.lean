/- slices.Insert of one number into a row of numbers, by contracts: at the end; into a new row. No condition but that the row fits. -/
import Derived.Test.YtjpeaeklhcnpnaaS2
namespace Go.Proofs.Ytjpeaeklhcnpnaa.K
open Go.RowKit
set_option linter.unusedVariables false
set_option linter.unusedSimpArgs false
theorem us_len (xs : List Int) : (us xs).length = xs.length := List.length_map _
theorem one_src {w : World} {vb : Nat} {y : Int} (hv : w.heap[vb]? = some (.cells #[.int .u64 y] 28 (0, 0))) : ∀ j u, (us [y])[j]? = some u → w.cell? ((⟨vb, 0, none⟩ : Addr).add j) = some u := by
  intro j u hj
  have : j = 0 := by have := (List.getElem?_eq_some_iff.1 hj).1; simp [us] at this; exact this
  subst this
  rw [Addr.add_mid, blk_cell hv]
  exact hj
set_option maxHeartbeats 4000000 in
set_option maxRecDepth 100000 in
theorem insert_end {w w' : World} {A : Option Addr} {n c vb : Nat} {v' : Value} (hc63 : n + 1 ≤ 9223372036854775807) (happ : ∀ ty, (Builtin.append_ #[79, 79] ty #[.slice A n c, .slice (some ⟨vb, 0, none⟩) 1 1]).run Try.prog w = .ok v' w') :
    Calls Try.prog 40 #[.slice A n c, .int .i64 n, .slice (some ⟨vb, 0, none⟩) 1 1] w fun e w2 => e = .returned v' ∧ w2 = w' := by
  have b1 : (n : Int) ≤ (n : Int) := Int.le_refl _
  go_enter Try.func40, Try.ntmps40
  cases A with
  | none =>
    go_wp2_with (refine wpList_append_run rfl (.tmp 23) (.tmp 24) (by rfl) (by rfl) (by rfl) (happ _) ?_)
    all_goals
      go_ret
      exact ⟨rfl, rfl⟩
  | some a =>
    go_wp2_with (refine wpList_append_run rfl (.tmp 23) (.tmp 24) (by rfl) (by rfl) (by rfl) (happ _) ?_)
    all_goals
      go_ret
      exact ⟨rfl, rfl⟩
/-- What is left of Insert. -/
def InsPost (w : World) (F : Nat → Prop) (ys : List Int) (e : Ending) (w' : World) : Prop := ∃ v', e = .returned v' ∧ USl w' (fun k => F k ∨ w.heap.size ≤ k) v' ys ∧ Chg w w' F ∧ (∃ A c, v' = .slice A ys.length c)
theorem ownsRow_U {w : World} {B n : Nat} {v : Value} {xs : List Int} (h : w.ownsRow B 28 1 v n (us xs)) (hn : 0 < n) : ∃ g cap, v = .slice (some ⟨g, 0, none⟩) xs.length cap ∧ B ≤ g ∧ URow w g 0 cap xs := by
  have hl : xs.length = n := by have := h.1; rw [us_len] at this; omega
  rcases h.2 with ⟨_, h0⟩ | ⟨g, cap, cur, rfl, hb, hg, hnc, hm, hcs, ht⟩
  · omega
  · refine ⟨g, cap, by rw [hl], hb, ⟨⟨cur, hg, by omega⟩, by omega, by simp only [maxLen] at hm; omega, fun j x hj => ?_⟩⟩
    have hu : (us xs)[j]? = some (.int .u64 x) := by simp only [us, List.getElem?_map, hj]; rfl
    rw [← ht, List.getElem?_take] at hu
    split at hu
    · rw [blk_cell hg, Nat.zero_add]
      simpa using hu
    · cases hu
theorem insert_end_any {w : World} {F : Nat → Prop} {A : Option Addr} {c vb : Nat} {xs : List Int} {y : Int} (h : USl w F (.slice A xs.length c) xs) (hv : w.heap[vb]? = some (.cells #[.int .u64 y] 28 (0, 0))) (hF : ¬ F vb) (hb : (xs.length + 1) * 8 ≤ 140737488355328) :
    Calls Try.prog 40 #[.slice A xs.length c, .int .i64 xs.length, .slice (some ⟨vb, 0, none⟩) 1 1] w (InsPost w F (xs ++ [y])) := by
  obtain ⟨i0, hi0, hzz⟩ := Option.map_eq_some_iff.1 info28
  simp only [Prod.mk.injEq] at hzz
  obtain ⟨z0, z1, z2⟩ := hzz
  rcases h with ⟨h1, rfl⟩ | ⟨g, off, cap', h1, hFg, hr⟩
  · injection h1 with e1 e2 e3
    subst e1 e3
    obtain ⟨v', w', hrun, h2, h3, _⟩ := run_append_own_at (P := Try.prog) w w.heap.size 79 79 28 i0 (.int .u64 0) 1 8 Try.underlying79 hi0 z0 z1 z2 rfl (by decide) (.slice none 0 0) 0 [] (World.ownsRow_nil _ _ _ _) ⟨vb, 0, none⟩ 1 1 (us [y]) rfl (one_src hv) (us_one _) (by simp [maxLen]) (by omega) (Nat.le_refl _)
    refine (insert_end (v' := v') (w' := w') (n := 0) (by omega) (fun ty => ?_)).mono ?_
    · have hty : (Builtin.append_ #[79, 79] ty #[.slice none 0 0, .slice (some ⟨vb, 0, none⟩) 1 1]) = Builtin.append_ #[79, 79] 79 #[.slice none 0 0, .slice (some ⟨vb, 0, none⟩) 1 1] := rfl
      rw [hty]
      exact hrun
    · rintro e w2 ⟨rfl, rfl⟩
      obtain ⟨g, cap, rfl, hg, hrow⟩ := ownsRow_U (xs := [y]) (by simpa [us] using h2) (by decide)
      exact ⟨_, rfl, .inr ⟨g, 0, cap, rfl, .inr hg, hrow⟩, (Chg.refl w F).grown h3 (fun b hb => by simp [Value.ownBlock] at hb), _, _, rfl⟩
  · injection h1 with e1 e2 e3
    subst e1 e3
    have hcells := hr.cells
    rcases Nat.lt_or_ge c (xs.length + 1) with hlt | hge
    · obtain ⟨v', w', hrun, h2, h3⟩ := run_append_arg_grows (P := Try.prog) w 79 79 28 i0 (.int .u64 0) 1 8 Try.underlying79 hi0 z0 z1 z2 rfl (by decide) ⟨g, off, none⟩ xs.length c (us xs) (by rw [us_len, Nat.mul_one]) (fun j u hu => by rw [Addr.add_mid]; exact hcells j u hu) ⟨vb, 0, none⟩ 1 1 (us [y]) rfl (one_src hv) hlt (by simp only [maxLen]; omega) hb
      refine (insert_end (v' := v') (w' := w') (n := xs.length) (by omega) (fun ty => hrun)).mono ?_
      rintro e w2 ⟨rfl, rfl⟩
      obtain ⟨g', c2, rfl, hg, hrow⟩ := ownsRow_U (xs := xs ++ [y]) (by simpa [us] using h2) (by omega)
      exact ⟨_, rfl,   .inr ⟨g', 0, c2, rfl, .inr hg, hrow⟩, (Chg.refl w F).grown h3 (fun b hb => by simp at hb), _, _, rfl⟩
    · have hne : vb ≠ g := fun e => hF (e ▸ hFg)
      have hrun := fun ty => run_append_room_cells (P := Try.prog) w 79 ty 28 i0 Try.underlying79 hi0 g off xs.length c ⟨vb, 0, none⟩ 1 1 (us [y]) (by rw [z1]; rfl) (one_src hv) (us_one _) hge
        (fun j hj => by simp [us] at hj; subst hj; rw [z1, Nat.mul_one, Nat.add_zero]; exact hr.some_ (by omega)) (fun j hj => hr.free _)
      refine (insert_end (n := xs.length) (by have := hr.fit; omega) hrun).mono ?_
      rintro e w2 ⟨rfl, rfl⟩
      rw [z1, Nat.mul_one]
      have hlay := hr.lay (i := xs.length) (ys := [y]) (Nat.le_refl _) (by simpa using hge) (by simp)
      rw [List.take_length] at hlay
      exact ⟨_, rfl, .inr ⟨g, off, c, by simp, .inl hFg, hlay⟩, Chg.sets (.inl hFg) _ _ (Chg.refl w F), some ⟨g, off, none⟩, c, by simp⟩
end Go.Proofs.Ytjpeaeklhcnpnaa.K
