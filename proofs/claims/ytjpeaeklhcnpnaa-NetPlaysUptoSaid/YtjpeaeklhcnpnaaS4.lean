/- slices.Insert of one number into the midst of a row of numbers that is full; Insert in all. No condition but that the row fits. -/
import Derived.Test.YtjpeaeklhcnpnaaS3
namespace Go.Proofs.Ytjpeaeklhcnpnaa.K
open Go.RowKit
set_option linter.unusedVariables false
set_option linter.unusedSimpArgs false
theorem zeros28 (n : Nat) : (Builtin.zeroCells (Value.int .u64 0).cells n).toList = us (List.replicate n 0) := by
  have hz : (Value.int .u64 0).cells = #[.int .u64 0] := rfl
  rw [hz]
  simp [Builtin.zeroCells, us]
  apply List.ext_getElem
  · simp
  · intro i h1 h2
    simp [Nat.mod_one]
set_option maxHeartbeats 4000000 in
set_option maxRecDepth 100000 in
theorem insert_move {w W1 : World} {g off cap vb i n g' c' : Nat} {news zs : List Value} (hi : i < n) (hnc : n ≤ cap) (hroom : cap < n + 1) (h63 : cap ≤ 9223372036854775806) (hc' : n + 1 ≤ c') (hc'63 : c' ≤ 9223372036854775807)
    (happ : ∀ ty, (Builtin.append_ #[79, 3] ty #[.slice (some ⟨g, off, none⟩) i cap, .int .i64 ((n + 1 - i : Nat) : Int)]).run Try.prog w = .ok (.slice (some ⟨g', 0, none⟩) (n + 1) c') W1)
    (hcp1 : ∀ ty dc, (Builtin.copy_ #[79, 79] ty #[.slice (some ⟨g', i, none⟩) (n + 1 - i) dc, .slice (some ⟨vb, 0, none⟩) 1 1]).run Try.prog W1 = .ok (goInt 1) (W1.setCells g' i zs))
    (hcp2 : ∀ ty dc sc, (Builtin.copy_ #[79, 79] ty #[.slice (some ⟨g', i + 1, none⟩) (n - i) dc, .slice (some ⟨g, off + i, none⟩) (n - i) sc]).run Try.prog (W1.setCells g' i zs).drew = .ok (goInt news.length) ((W1.setCells g' i zs).drew.setCells g' (i + 1) news)) :
    Calls Try.prog 40 #[.slice (some ⟨g, off, none⟩) n cap, .int .i64 i, .slice (some ⟨vb, 0, none⟩) 1 1] w fun e w' => e = .returned (.slice (some ⟨g', 0, none⟩) (n + 1) c') ∧ w' = (W1.setCells g' i zs).drew.setCells g' (i + 1) news := by
  obtain ⟨W2, hW2⟩ : ∃ W2, W2 = W1.setCells g' i zs := ⟨_, rfl⟩
  rw [← hW2] at hcp1 hcp2 ⊢
  clear hW2
  have b1 : (0 : Int) ≤ (i : Int) + 1 := by omega
  have b2 : (i : Int) + 1 ≤ (n : Int) + 1 := by omega
  have b3 : (i : Int) ≤ (n : Int) + 1 := by omega
  have b4 : (cap : Int) < (n : Int) + 1 := by omega
  have hne1 : ¬ cap = i := by omega
  have hne2 : ¬ c' = i + 1 := by omega
  have hne3 : ¬ c' = i := by omega
  have hin : i ≤ n := by omega
  have hic : i ≤ cap := by omega
  have hin1 : i ≤ n + 1 := by omega
  have hq1 : ¬ ((i : Int) = (n : Int)) := by omega
  have hk : ((n + 1 - i : Nat) : Int) = (n : Int) + 1 - (i : Int) := by omega
  rw [hk] at happ
  have hw1 : IntKind.i64.wrap ((i : Int) + 1) = (i : Int) + 1 := by rw [IntKind.wrap_i64]; omega
  have hw2 : IntKind.i64.wrap ((n : Int) + 1 - (i : Int)) = (n : Int) + 1 - (i : Int) := by rw [IntKind.wrap_i64]; omega
  have htn : ((i : Int) + 1).toNat = i + 1 := by omega
  clear hk
  go_enter Try.func40, Try.ntmps40
  go_wp2_with (refine wpList_append_run rfl (.tmp 34) (.tmp 39) (by rfl) (by rfl) (by rfl) (happ _) ?_)
  go_region_law (fail)
  go_wp2
  go_ret
  exact ⟨rfl, rfl⟩
theorem insert_move_any {w : World} {F : Nat → Prop} {g off cap vb i : Nat} {xs : List Int} {y : Int} (h : URow w g off cap xs) (hFg : F g) (hi : i < xs.length) (hroom : cap < xs.length + 1) (hv : w.heap[vb]? = some (.cells #[.int .u64 y] 28 (0, 0))) (hF : ¬ F vb) (hb : (xs.length + 1) * 8 ≤ 140737488355328) :
    Calls Try.prog 40 #[.slice (some ⟨g, off, none⟩) xs.length cap, .int .i64 i, .slice (some ⟨vb, 0, none⟩) 1 1] w (InsPost w F (xs.take i ++ y :: xs.drop i)) := by
  obtain ⟨i0, hi0, hzz⟩ := Option.map_eq_some_iff.1 info28
  simp only [Prod.mk.injEq] at hzz
  obtain ⟨z0, z1, z2⟩ := hzz
  have hlen := h.len
  have hcells := h.cells
  have hold : (Builtin.firstCells i0.size i (.slice (some ⟨g, off, none⟩) i cap)).run Try.prog w.drew = .ok (us (xs.take i)).toArray w.drew := by
    rw [z1]
    exact run_firstCells_some (P := Try.prog) w.drew 1 i ⟨g, off, none⟩ i cap (us (xs.take i)) (by rw [us_len, List.length_take]; omega) (fun j u hu => by
      rw [Addr.add_mid]
      refine hcells j u ?_
      simp only [us, List.getElem?_map, List.getElem?_take] at hu ⊢
      split at hu
      · exact hu
      · simp at hu)
  have happ := fun ty => Lib.run_append_grow_zeros (P := Try.prog) w 79 3 ty 28 i0 (.int .u64 0) .i64 .i64 Try.underlying79 Try.underlying3 hi0 z0 (some ⟨g, off, none⟩) i cap (us (xs.take i)) hold (xs.length + 1 - i) (by omega) (by rw [z1]; decide) (by omega) (by omega) (by rw [z2]; omega)
    (by
      have := growslice_fits (need := i + (xs.length + 1 - i)) (old := cap) (bytes := i0.bytes) (by omega) (by rw [z2]; omega)
      exact this)
  rw [show i + (xs.length + 1 - i) = xs.length + 1 by omega] at happ
  have hge := grownCap_ge w (xs.length + 1) cap 28
  have hcm : grownCap w (xs.length + 1) cap 28 ≤ maxLen := grownCap_le_maxLen w (xs.length + 1) cap 28 (by simp only [maxLen]; omega)
  simp only [maxLen] at hcm
  generalize grownCap w (xs.length + 1) cap 28 = c' at *
  obtain ⟨W1, hW1⟩ : ∃ W1, W1 = w.drew.alloc (.cells ((us (xs.take i)).toArray ++ Builtin.zeroCells (Value.int .u64 0).cells (xs.length + 1 - i) ++ Builtin.zeroCells (Value.int .u64 0).cells (c' - (xs.length + 1))) 28) := ⟨_, rfl⟩
  rw [← hW1] at happ
  have hg1 : W1.heap[w.heap.size]? = some (.cells ((us (xs.take i)).toArray ++ Builtin.zeroCells (Value.int .u64 0).cells (xs.length + 1 - i) ++ Builtin.zeroCells (Value.int .u64 0).cells (c' - (xs.length + 1))) 28 (0, 0)) := by rw [hW1]; exact blk_new w.drew _
  have hW1c : Chg w W1 F := by rw [hW1]; exact (Chg.refl w F).drew.alloc _
  have hlist : ((us (xs.take i)).toArray ++ Builtin.zeroCells (Value.int .u64 0).cells (xs.length + 1 - i) ++ Builtin.zeroCells (Value.int .u64 0).cells (c' - (xs.length + 1))).toList = us (xs.take i ++ List.replicate (xs.length + 1 - i) 0) ++ us (List.replicate (c' - (xs.length + 1)) 0) := by
    rw [Array.toList_append, Array.toList_append, zeros28, zeros28]
    simp [us]
  have hcsz : ((us (xs.take i)).toArray ++ Builtin.zeroCells (Value.int .u64 0).cells (xs.length + 1 - i) ++ Builtin.zeroCells (Value.int .u64 0).cells (c' - (xs.length + 1))).size = c' := by
    rw [← Array.length_toList, hlist, List.length_append, us_len, us_len]
    simp
    omega
  have hr1 : URow W1 w.heap.size 0 c' (xs.take i ++ List.replicate (xs.length + 1 - i) 0) := by
    refine ⟨⟨_, hg1, by omega⟩, by simp; omega, by omega, fun j x hj => ?_⟩
    rw [blk_cell hg1, Nat.zero_add, ← Array.getElem?_toList, hlist, List.getElem?_append_left (by rw [us_len]; exact (List.getElem?_eq_some_iff.1 hj).1)]
    simp only [us, List.getElem?_map, hj]
    rfl
  have hl1 : (xs.take i ++ List.replicate (xs.length + 1 - i) (0 : Int)).length = xs.length + 1 := by simp; omega
  have hr2 := hr1.put (i := i) (by omega) y
  have hr2d : URow (W1.setCells w.heap.size (0 + i) (us [y])).drew w.heap.size 0 c' ((xs.take i ++ List.replicate (xs.length + 1 - i) 0).set i y) := hr2.same rfl
  have hr3 := hr2d.lay (i := i + 1) (ys := xs.drop i) (by simp; omega) (by rw [List.length_drop]; omega) (by simp; omega)
  have hgl := h.lt
  have hne : g ≠ w.heap.size := by omega
  have hvl := blk_lt hv
  have hv1 : W1.heap[vb]? = some (.cells #[.int .u64 y] 28 (0, 0)) := hW1c.keeps hv hF
  have hgsame : (W1.setCells w.heap.size (0 + i) (us [y])).drew.heap[g]? = w.heap[g]? := by
    show (W1.setCells w.heap.size (0 + i) (us [y])).heap[g]? = _
    rw [setCells_other _ _ _ hne, hW1]
    exact Below.heap_alloc w.drew _ _ hgl
  have hsrc := (h.same hgsame).cells
  rw [Nat.zero_add] at hr2 hr2d hsrc
  rw [Nat.zero_add, Nat.zero_add] at hr3
  refine (insert_move (w := w) (W1 := W1) (g := g) (off := off) (cap := cap) (vb := vb) (i := i) (n := xs.length) (g' := w.heap.size) (c' := c') (news := us (xs.drop i)) (zs := us [y]) hi hlen hroom (by omega) hge (by omega) happ
    (fun ty dc => run_copy_cells W1 79 79 ty 28 w.heap.size i (xs.length + 1 - i) dc ⟨vb, 0, none⟩ 1 1 (us [y]) Try.underlying79 size28 (by show 1 = _; simp only [Nat.min_def]; split <;> omega) (one_src hv1)
      (fun j hj => by have := hr1.some_ (j := i + j) (by simp [us] at hj; omega); rwa [Nat.zero_add] at this) (fun j hj => hr1.free _) (us_one _))
    (fun ty dc sc => run_copy_cells _ 79 79 ty 28 w.heap.size (i + 1) (xs.length - i) dc ⟨g, off + i, none⟩ (xs.length - i) sc (us (xs.drop i)) Try.underlying79 size28 (by rw [us_len, List.length_drop]; simp only [Nat.min_def]; split <;> omega)
      (fun j u hj => by
        rw [Addr.add_mid, Nat.add_assoc]
        refine hsrc (i + j) u ?_
        simpa [us] using hj)
      (fun j hj => by rw [us_len, List.length_drop] at hj; have := hr2d.some_ (j := i + 1 + j) (by omega); rwa [Nat.zero_add] at this) (fun j hj => hr2d.free _) (us_one _))).mono ?_
  rintro e w' ⟨rfl, rfl⟩
  have hfin : ((xs.take i ++ List.replicate (xs.length + 1 - i) 0).set i y).take (i + 1) ++ xs.drop i = xs.take i ++ y :: xs.drop i := by
    have : ((xs.take i ++ List.replicate (xs.length + 1 - i) 0).set i y).take (i + 1) = xs.take i ++ [y] := by
      refine List.ext_getElem? fun j => ?_
      rw [List.getElem?_take]
      by_cases hj : j < i + 1
      · rw [if_pos hj, List.getElem?_set]
        by_cases e : i = j
        · subst e
          rw [if_pos rfl, if_pos (by omega), List.getElem?_append_right (by rw [List.length_take]; omega), List.length_take]
          simp [Nat.min_eq_left (Nat.le_of_lt hi)]
        · rw [if_neg e, List.getElem?_append_left (by simp; omega), List.getElem?_append_left (by simp; omega)]
      · rw [if_neg hj, List.getElem?_eq_none (by simp; omega)]
    rw [this, List.append_assoc]
    rfl
  rw [hfin] at hr3
  have hll : (xs.take i ++ y :: xs.drop i).length = xs.length + 1 := by simp; omega
  refine ⟨_, rfl, .inr ⟨w.heap.size, 0, c', by rw [hll], .inr (Nat.le_refl _), hr3⟩, ?_, _, _, by rw [hll]⟩
  exact Chg.sets (.inr (Nat.le_refl _)) _ _ (Chg.sets (.inr (Nat.le_refl _)) _ _ hW1c).drew
theorem insert_any {w : World} {F : Nat → Prop} {A : Option Addr} {c vb i : Nat} {xs : List Int} {y : Int} (h : USl w F (.slice A xs.length c) xs) (hi : i ≤ xs.length) (hv : w.heap[vb]? = some (.cells #[.int .u64 y] 28 (0, 0))) (hF : ¬ F vb) (hb : (xs.length + 1) * 8 ≤ 140737488355328) :
    Calls Try.prog 40 #[.slice A xs.length c, .int .i64 i, .slice (some ⟨vb, 0, none⟩) 1 1] w (InsPost w F (xs.take i ++ y :: xs.drop i)) := by
  rcases Nat.lt_or_ge i xs.length with hlt | hge
  · rcases h with ⟨_, rfl⟩ | ⟨g, off, cap, h1, hFg, hr⟩
    · simp at hlt
    · injection h1 with e1 e2 e3
      subst e1 e3
      rcases Nat.lt_or_ge c (xs.length + 1) with hc | hc
      · exact insert_move_any hr hFg hlt hc hv hF hb
      · have hne : vb ≠ g := fun e => hF (e ▸ hFg)
        refine (insert_shift hr hlt hc hv hne).mono ?_
        rintro e w' ⟨rfl, rfl⟩
        have hd : URow w.drew g off c xs := hr.same rfl
        have h2 := hd.lay (i := i + 1) (ys := xs.drop i) (by omega) (by rw [List.length_drop]; omega) (by rw [List.length_drop]; omega)
        have h3 := h2.put (i := i) (by simp; omega) y
        have hl := insert_list hi y
        rw [hl.resolve_right (by omega)] at h3
        have hll : (xs.take i ++ y :: xs.drop i).length = xs.length + 1 := by simp; omega
        exact ⟨_, rfl, .inr ⟨g, off, c, by rw [hll], .inl hFg, h3⟩, Chg.sets (.inl hFg) _ _ (Chg.sets (.inl hFg) _ _ (Chg.refl w F).drew), _, _, by rw [hll]⟩
  · obtain rfl : i = xs.length := by omega
    rw [List.take_length, List.drop_length]
    exact insert_end_any h hv hF hb
end Go.Proofs.Ytjpeaeklhcnpnaa.K
