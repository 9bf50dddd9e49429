/- The contracts of slices.Clone at the kinds of this seat: no condition but that the elements fit into memory. Written by a program. -/
import Derived.Test.YtjpeaeklhcnpnaaStructs
import Derived.Lib.SliceRun
import Derived.Deep.DeepMust
import Derived.Deep.DeepFit
namespace Go.Proofs.Ytjpeaeklhcnpnaa.K
open Go.RowKit
set_option linter.unusedVariables false
set_option linter.unusedSimpArgs false
def New (w : World) : Nat → Prop := fun k => w.heap.size ≤ k
theorem Kd.Own_made {α : Type} (d : Kd α) (e : TypeId) (w : World) (F : Nat → Prop) (base : Nat) (hb : base ≤ w.heap.size) (hF : F w.heap.size) : d.Own e (w.alloc (.cells #[] e)) F base (.slice (some ⟨w.heap.size, 0, none⟩) 0 0) [] :=
  ⟨fun k hk => by
    have : w.heap.size = k := by simpa [Value.ownBlock] using hk
    exact this ▸ hF, [], World.ownsRow_made w #[] 0 hb (Nat.zero_le _) (by simp), fun j p hj => by simp at hj⟩
def NewOr (w : World) (Fr : Nat → Prop) : Nat → Prop := fun k => w.heap.size ≤ k ∨ Fr k
theorem made_far (w : World) {Fr : Nat → Prop} {m : Nat} : ∀ k, (Fr k ∧ k < w.heap.size) → k < m → NewOr w Fr k ∧ some k ≠ (Value.slice (some ⟨w.heap.size, 0, none⟩) 0 0).ownBlock :=
  fun k hk _ => ⟨.inr hk.1, fun he => by
    have : k = w.heap.size := by simpa [Value.ownBlock] using he
    have := hk.2
    omega⟩
theorem new_alloc (w : World) (o : Obj) (k : Nat) (hk : (w.alloc o).heap.size ≤ k) : New w k := by
  simp at hk
  simp only [New]
  omega
theorem kAgg_far {w : World} {F F' : Nat → Prop} {x : Agg} {cs : List Value} (h : kAgg.K w F x cs) : kAgg.K w F' x cs := by
  obtain ⟨rfl, h1, h2⟩ := kAgg_open h
  exact kAgg_mk _ _ x h1 h2
theorem kSeg_far {w : World} {F F' : Nat → Prop} {x : Seg} {cs : List Value} (h : kSeg.K w F x cs) : kSeg.K w F' x cs := by
  obtain ⟨rfl, h1, h2, h3, h4, h5⟩ := kSeg_open h
  exact kSeg_mk _ _ x h1 h2 h3 h4 h5

theorem info_49 : (Try.prog.info? 9).map (fun i => (i.zero, i.size, i.bytes)) = some (some (.string ⟨#[]⟩), (Kd.string : Kd ByteArray).sz, 16) := by kernel_rfl
set_option maxHeartbeats 2000000 in
theorem clone49_any (xs : List ByteArray) (A : Option Addr) (c : Nat) (w : World) (h : Kd.string.C w Any A xs.length xs) (hl : xs.length * 16 ≤ 140737488355328) :
    Calls Try.prog 49 #[.slice A xs.length c] w fun e w' => ∃ A' c', e = .returned (.slice A' xs.length c') ∧ Kd.string.Own 9 w' (New w) w.heap.size (.slice A' xs.length c') xs ∧ Below w.heap.size w w' := by
  have hn := h.2.1
  have HC := Aside.mk h
  have he := Lib.run_eql_slice_nil (P := Try.prog) w 32 _ A xs.length c 0 0 Try.underlying32
  cases A with
  | none =>
    have h0 : xs = [] := by
      rcases Nat.eq_zero_or_pos xs.length with h0 | h0
      · exact List.eq_nil_of_length_eq_zero h0
      · obtain ⟨ad, h, _⟩ := h.2.2 h0; cases h
    subst h0
    clear h
    simp only [List.length_nil, Option.isNone_none] at he
    go_enter Try.func49, Try.ntmps49
    go_wp2
    go_ret
    exact ⟨none, 0, rfl, Kd.Own_nil _ _ _ _ _, Below.refl _ _⟩
  | some ad =>
    clear h
    simp only [Option.isNone_some] at he
    go_enter Try.func49, Try.ntmps49
    go_wp2_with (at_builtin; go_must (refine Kd.append_rowE Kd.string (W := w.alloc (.cells #[] 9)) w.heap.size rfl (.tmp 5) (.tmp 6) 32 9 (.string ⟨#[]⟩) 16 rfl Try.underlying32 info_49 rfl (by decide) (by decide) (.slice (some ⟨w.heap.size, 0, none⟩) 0 0) [] xs (some ad) xs.length c (New w) _ (fun _ => False) rfl rfl (Kd.Own_made Kd.string 9 w _ _ (Nat.le_refl _) (Nat.le_refl _)) (Kd.C_below HC.out (below_alloc (Below.refl _ _) _)) (fun _ _ _ h => h) (fun _ h => h.elim) ?fresh ?base ?len ?next))
    case fresh => exact fun k hk => new_alloc w _ k hk
    case base => simp
    case len => simpa using hl
    case next =>
      intro v1 w1 hown hg hat
      have hb1 : Below w.heap.size w w1 := (below_alloc (Below.refl _ w) _).grown hg (by simp) (fun k hk => by simp [Value.ownBlock] at hk; omega)
      obtain ⟨A', c', rfl, hc', hC⟩ := Kd.Own_C hown
      have HO := Aside.mk hown
      clear hg hat hown hC
      go_wp2
      go_ret
      exact ⟨A', c', rfl, HO.out, hb1⟩
theorem info_50 : (Try.prog.info? 2).map (fun i => (i.zero, i.size, i.bytes)) = some (some (.int .i64 0), ((Kd.int .i64) : Kd Int).sz, 8) := by kernel_rfl
set_option maxHeartbeats 2000000 in
theorem clone50_any (xs : List Int) (A : Option Addr) (c : Nat) (w : World) (h : (Kd.int .i64).C w Any A xs.length xs) (hl : xs.length * 8 ≤ 140737488355328) :
    Calls Try.prog 50 #[.slice A xs.length c] w fun e w' => ∃ A' c', e = .returned (.slice A' xs.length c') ∧ (Kd.int .i64).Own 2 w' (New w) w.heap.size (.slice A' xs.length c') xs ∧ Below w.heap.size w w' := by
  have hn := h.2.1
  have HC := Aside.mk h
  have he := Lib.run_eql_slice_nil (P := Try.prog) w 33 _ A xs.length c 0 0 Try.underlying33
  cases A with
  | none =>
    have h0 : xs = [] := by
      rcases Nat.eq_zero_or_pos xs.length with h0 | h0
      · exact List.eq_nil_of_length_eq_zero h0
      · obtain ⟨ad, h, _⟩ := h.2.2 h0; cases h
    subst h0
    clear h
    simp only [List.length_nil, Option.isNone_none] at he
    go_enter Try.func50, Try.ntmps50
    go_wp2
    go_ret
    exact ⟨none, 0, rfl, Kd.Own_nil _ _ _ _ _, Below.refl _ _⟩
  | some ad =>
    clear h
    simp only [Option.isNone_some] at he
    go_enter Try.func50, Try.ntmps50
    go_wp2_with (at_builtin; go_must (refine Kd.append_rowE (Kd.int .i64) (W := w.alloc (.cells #[] 2)) w.heap.size rfl (.tmp 5) (.tmp 6) 33 2 (.int .i64 0) 8 rfl Try.underlying33 info_50 rfl (by decide) (by decide) (.slice (some ⟨w.heap.size, 0, none⟩) 0 0) [] xs (some ad) xs.length c (New w) _ (fun _ => False) rfl rfl (Kd.Own_made (Kd.int .i64) 2 w _ _ (Nat.le_refl _) (Nat.le_refl _)) (Kd.C_below HC.out (below_alloc (Below.refl _ _) _)) (fun _ _ _ h => h) (fun _ h => h.elim) ?fresh ?base ?len ?next))
    case fresh => exact fun k hk => new_alloc w _ k hk
    case base => simp
    case len => simpa using hl
    case next =>
      intro v1 w1 hown hg hat
      have hb1 : Below w.heap.size w w1 := (below_alloc (Below.refl _ w) _).grown hg (by simp) (fun k hk => by simp [Value.ownBlock] at hk; omega)
      obtain ⟨A', c', rfl, hc', hC⟩ := Kd.Own_C hown
      have HO := Aside.mk hown
      clear hg hat hown hC
      go_wp2
      go_ret
      exact ⟨A', c', rfl, HO.out, hb1⟩
theorem info_52 : (Try.prog.info? 119).map (fun i => (i.zero, i.size, i.bytes)) = some (some (.agg #[.int .i64 0, .int .i64 0]), (kAgg : Kd Agg).sz, 16) := by kernel_rfl
set_option maxHeartbeats 2000000 in
theorem clone52_any (xs : List Agg) (A : Option Addr) (c : Nat) (w : World) (h : kAgg.C w Any A xs.length xs) (hl : xs.length * 16 ≤ 140737488355328) :
    Calls Try.prog 52 #[.slice A xs.length c] w fun e w' => ∃ A' c', e = .returned (.slice A' xs.length c') ∧ kAgg.Own 119 w' (New w) w.heap.size (.slice A' xs.length c') xs ∧ Below w.heap.size w w' := by
  have hn := h.2.1
  have HC := Aside.mk h
  have he := Lib.run_eql_slice_nil (P := Try.prog) w 42 _ A xs.length c 0 0 Try.underlying42
  cases A with
  | none =>
    have h0 : xs = [] := by
      rcases Nat.eq_zero_or_pos xs.length with h0 | h0
      · exact List.eq_nil_of_length_eq_zero h0
      · obtain ⟨ad, h, _⟩ := h.2.2 h0; cases h
    subst h0
    clear h
    simp only [List.length_nil, Option.isNone_none] at he
    go_enter Try.func52, Try.ntmps52
    go_wp2
    go_ret
    exact ⟨none, 0, rfl, Kd.Own_nil _ _ _ _ _, Below.refl _ _⟩
  | some ad =>
    clear h
    simp only [Option.isNone_some] at he
    go_enter Try.func52, Try.ntmps52
    go_wp2_with (at_builtin; go_must (refine Kd.append_rowE kAgg (W := w.alloc (.cells #[] 119)) w.heap.size rfl (.tmp 5) (.tmp 6) 42 119 (.agg #[.int .i64 0, .int .i64 0]) 16 rfl Try.underlying42 info_52 rfl (by decide) (by decide) (.slice (some ⟨w.heap.size, 0, none⟩) 0 0) [] xs (some ad) xs.length c (New w) _ (fun _ => False) rfl rfl (Kd.Own_made kAgg 119 w _ _ (Nat.le_refl _) (Nat.le_refl _)) (Kd.C_below HC.out (below_alloc (Below.refl _ _) _)) (fun _ _ _ h => kAgg_far h) (fun _ h => h.elim) ?fresh ?base ?len ?next))
    case fresh => exact fun k hk => new_alloc w _ k hk
    case base => simp
    case len => simpa using hl
    case next =>
      intro v1 w1 hown hg hat
      have hb1 : Below w.heap.size w w1 := (below_alloc (Below.refl _ w) _).grown hg (by simp) (fun k hk => by simp [Value.ownBlock] at hk; omega)
      obtain ⟨A', c', rfl, hc', hC⟩ := Kd.Own_C hown
      have HO := Aside.mk hown
      clear hg hat hown hC
      go_wp2
      go_ret
      exact ⟨A', c', rfl, HO.out, hb1⟩
theorem info_54 : (Try.prog.info? 3).map (fun i => (i.zero, i.size, i.bytes)) = some (some (.int .i64 0), ((Kd.int .i64) : Kd Int).sz, 8) := by kernel_rfl
set_option maxHeartbeats 2000000 in
theorem clone54_any (xs : List Int) (A : Option Addr) (c : Nat) (w : World) (h : (Kd.int .i64).C w Any A xs.length xs) (hl : xs.length * 8 ≤ 140737488355328) :
    Calls Try.prog 54 #[.slice A xs.length c] w fun e w' => ∃ A' c', e = .returned (.slice A' xs.length c') ∧ (Kd.int .i64).Own 3 w' (New w) w.heap.size (.slice A' xs.length c') xs ∧ Below w.heap.size w w' := by
  have hn := h.2.1
  have HC := Aside.mk h
  have he := Lib.run_eql_slice_nil (P := Try.prog) w 81 _ A xs.length c 0 0 Try.underlying81
  cases A with
  | none =>
    have h0 : xs = [] := by
      rcases Nat.eq_zero_or_pos xs.length with h0 | h0
      · exact List.eq_nil_of_length_eq_zero h0
      · obtain ⟨ad, h, _⟩ := h.2.2 h0; cases h
    subst h0
    clear h
    simp only [List.length_nil, Option.isNone_none] at he
    go_enter Try.func54, Try.ntmps54
    go_wp2
    go_ret
    exact ⟨none, 0, rfl, Kd.Own_nil _ _ _ _ _, Below.refl _ _⟩
  | some ad =>
    clear h
    simp only [Option.isNone_some] at he
    go_enter Try.func54, Try.ntmps54
    go_wp2_with (at_builtin; go_must (refine Kd.append_rowE (Kd.int .i64) (W := w.alloc (.cells #[] 3)) w.heap.size rfl (.tmp 5) (.tmp 6) 81 3 (.int .i64 0) 8 rfl Try.underlying81 info_54 rfl (by decide) (by decide) (.slice (some ⟨w.heap.size, 0, none⟩) 0 0) [] xs (some ad) xs.length c (New w) _ (fun _ => False) rfl rfl (Kd.Own_made (Kd.int .i64) 3 w _ _ (Nat.le_refl _) (Nat.le_refl _)) (Kd.C_below HC.out (below_alloc (Below.refl _ _) _)) (fun _ _ _ h => h) (fun _ h => h.elim) ?fresh ?base ?len ?next))
    case fresh => exact fun k hk => new_alloc w _ k hk
    case base => simp
    case len => simpa using hl
    case next =>
      intro v1 w1 hown hg hat
      have hb1 : Below w.heap.size w w1 := (below_alloc (Below.refl _ w) _).grown hg (by simp) (fun k hk => by simp [Value.ownBlock] at hk; omega)
      obtain ⟨A', c', rfl, hc', hC⟩ := Kd.Own_C hown
      have HO := Aside.mk hown
      clear hg hat hown hC
      go_wp2
      go_ret
      exact ⟨A', c', rfl, HO.out, hb1⟩
theorem info_55 : (Try.prog.info? 46).map (fun i => (i.zero, i.size, i.bytes)) = some (some (.agg #[.int .i64 0, .int .i64 0, .int .i64 0, .int .i64 0, .int .i64 0]), (kSeg : Kd Seg).sz, 40) := by kernel_rfl
set_option maxHeartbeats 2000000 in
theorem clone55_any (xs : List Seg) (A : Option Addr) (c : Nat) (w : World) (h : kSeg.C w Any A xs.length xs) (hl : xs.length * 40 ≤ 140737488355328) :
    Calls Try.prog 55 #[.slice A xs.length c] w fun e w' => ∃ A' c', e = .returned (.slice A' xs.length c') ∧ kSeg.Own 46 w' (New w) w.heap.size (.slice A' xs.length c') xs ∧ Below w.heap.size w w' := by
  have hn := h.2.1
  have HC := Aside.mk h
  have he := Lib.run_eql_slice_nil (P := Try.prog) w 51 _ A xs.length c 0 0 Try.underlying51
  cases A with
  | none =>
    have h0 : xs = [] := by
      rcases Nat.eq_zero_or_pos xs.length with h0 | h0
      · exact List.eq_nil_of_length_eq_zero h0
      · obtain ⟨ad, h, _⟩ := h.2.2 h0; cases h
    subst h0
    clear h
    simp only [List.length_nil, Option.isNone_none] at he
    go_enter Try.func55, Try.ntmps55
    go_wp2
    go_ret
    exact ⟨none, 0, rfl, Kd.Own_nil _ _ _ _ _, Below.refl _ _⟩
  | some ad =>
    clear h
    simp only [Option.isNone_some] at he
    go_enter Try.func55, Try.ntmps55
    go_wp2_with (at_builtin; go_must (refine Kd.append_rowE kSeg (W := w.alloc (.cells #[] 46)) w.heap.size rfl (.tmp 5) (.tmp 6) 51 46 (.agg #[.int .i64 0, .int .i64 0, .int .i64 0, .int .i64 0, .int .i64 0]) 40 rfl Try.underlying51 info_55 rfl (by decide) (by decide) (.slice (some ⟨w.heap.size, 0, none⟩) 0 0) [] xs (some ad) xs.length c (New w) _ (fun _ => False) rfl rfl (Kd.Own_made kSeg 46 w _ _ (Nat.le_refl _) (Nat.le_refl _)) (Kd.C_below HC.out (below_alloc (Below.refl _ _) _)) (fun _ _ _ h => kSeg_far h) (fun _ h => h.elim) ?fresh ?base ?len ?next))
    case fresh => exact fun k hk => new_alloc w _ k hk
    case base => simp
    case len => simpa using hl
    case next =>
      intro v1 w1 hown hg hat
      have hb1 : Below w.heap.size w w1 := (below_alloc (Below.refl _ w) _).grown hg (by simp) (fun k hk => by simp [Value.ownBlock] at hk; omega)
      obtain ⟨A', c', rfl, hc', hC⟩ := Kd.Own_C hown
      have HO := Aside.mk hown
      clear hg hat hown hC
      go_wp2
      go_ret
      exact ⟨A', c', rfl, HO.out, hb1⟩
theorem info_74 : (Try.prog.info? 40).map (fun i => (i.zero, i.size, i.bytes)) = some (some (.agg #[.int .i64 0, .int .i64 0, .slice none 0 0, .int .i64 0, .int .i64 0, .slice none 0 0]), (kFilter : Kd Filter).sz, 80) := by kernel_rfl
set_option maxHeartbeats 2000000 in
theorem clone74_any (xs : List Filter) (A : Option Addr) (c : Nat) (w : World) (Fr : Nat → Prop) (h : kFilter.C w Fr A xs.length xs) (hl : xs.length * 80 ≤ 140737488355328) :
    Calls Try.prog 74 #[.slice A xs.length c] w fun e w' => ∃ A' c', e = .returned (.slice A' xs.length c') ∧ kFilter.Own 40 w' (NewOr w Fr) w.heap.size (.slice A' xs.length c') xs ∧ Below w.heap.size w w' := by
  have hn := h.2.1
  have HC := Aside.mk h
  have he := Lib.run_eql_slice_nil (P := Try.prog) w 38 _ A xs.length c 0 0 Try.underlying38
  cases A with
  | none =>
    have h0 : xs = [] := by
      rcases Nat.eq_zero_or_pos xs.length with h0 | h0
      · exact List.eq_nil_of_length_eq_zero h0
      · obtain ⟨ad, h, _⟩ := h.2.2 h0; cases h
    subst h0
    clear h
    simp only [List.length_nil, Option.isNone_none] at he
    go_enter Try.func74, Try.ntmps74
    go_wp2
    go_ret
    exact ⟨none, 0, rfl, Kd.Own_nil _ _ _ _ _, Below.refl _ _⟩
  | some ad =>
    clear h
    simp only [Option.isNone_some] at he
    go_enter Try.func74, Try.ntmps74
    go_wp2_with (at_builtin; go_must (refine Kd.append_rowE kFilter (W := w.alloc (.cells #[] 40)) w.heap.size rfl (.tmp 5) (.tmp 6) 38 40 (.agg #[.int .i64 0, .int .i64 0, .slice none 0 0, .int .i64 0, .int .i64 0, .slice none 0 0]) 80 rfl Try.underlying38 info_74 rfl (by decide) (by decide) (.slice (some ⟨w.heap.size, 0, none⟩) 0 0) [] xs (some ad) xs.length c (NewOr w Fr) _ (fun k => Fr k ∧ k < w.heap.size) rfl rfl (Kd.Own_made kFilter 40 w _ _ (Nat.le_refl _) (Or.inl (Nat.le_refl _))) (Kd.C_below (Kd.C_lt HC.out) (below_alloc (Below.refl _ _) _)) (fun _ _ _ h => h) (made_far w) ?fresh ?base ?len ?next))
    case fresh => exact fun k hk => Or.inl (new_alloc w _ k hk)
    case base => simp
    case len => simpa using hl
    case next =>
      intro v1 w1 hown hg hat
      have hb1 : Below w.heap.size w w1 := (below_alloc (Below.refl _ w) _).grown hg (by simp) (fun k hk => by simp [Value.ownBlock] at hk; omega)
      obtain ⟨A', c', rfl, hc', hC⟩ := Kd.Own_C hown
      have HO := Aside.mk hown
      clear hg hat hown hC
      go_wp2
      go_ret
      exact ⟨A', c', rfl, HO.out, hb1⟩
theorem info_53 : (Try.prog.info? 81).map (fun i => (i.zero, i.size, i.bytes)) = some (some (.slice none 0 0), ((Kd.slice 8 (Kd.int .i64)) : Kd (List Int)).sz, 24) := by kernel_rfl
set_option maxHeartbeats 2000000 in
theorem clone53_any (xs : List (List Int)) (A : Option Addr) (c : Nat) (w : World) (Fr : Nat → Prop) (h : (Kd.slice 8 (Kd.int .i64)).C w Fr A xs.length xs) (hl : xs.length * 24 ≤ 140737488355328) :
    Calls Try.prog 53 #[.slice A xs.length c] w fun e w' => ∃ A' c', e = .returned (.slice A' xs.length c') ∧ (Kd.slice 8 (Kd.int .i64)).Own 81 w' (NewOr w Fr) w.heap.size (.slice A' xs.length c') xs ∧ Below w.heap.size w w' := by
  have hn := h.2.1
  have HC := Aside.mk h
  have he := Lib.run_eql_slice_nil (P := Try.prog) w 41 _ A xs.length c 0 0 Try.underlying41
  cases A with
  | none =>
    have h0 : xs = [] := by
      rcases Nat.eq_zero_or_pos xs.length with h0 | h0
      · exact List.eq_nil_of_length_eq_zero h0
      · obtain ⟨ad, h, _⟩ := h.2.2 h0; cases h
    subst h0
    clear h
    simp only [List.length_nil, Option.isNone_none] at he
    go_enter Try.func53, Try.ntmps53
    go_wp2
    go_ret
    exact ⟨none, 0, rfl, Kd.Own_nil _ _ _ _ _, Below.refl _ _⟩
  | some ad =>
    clear h
    simp only [Option.isNone_some] at he
    go_enter Try.func53, Try.ntmps53
    go_wp2_with (at_builtin; go_must (refine Kd.append_rowE (Kd.slice 8 (Kd.int .i64)) (W := w.alloc (.cells #[] 81)) w.heap.size rfl (.tmp 5) (.tmp 6) 41 81 (.slice none 0 0) 24 rfl Try.underlying41 info_53 rfl (by decide) (by decide) (.slice (some ⟨w.heap.size, 0, none⟩) 0 0) [] xs (some ad) xs.length c (NewOr w Fr) _ (fun k => Fr k ∧ k < w.heap.size) rfl rfl (Kd.Own_made (Kd.slice 8 (Kd.int .i64)) 81 w _ _ (Nat.le_refl _) (Or.inl (Nat.le_refl _))) (Kd.C_below (Kd.C_lt HC.out) (below_alloc (Below.refl _ _) _)) (fun _ _ _ h => h) (made_far w) ?fresh ?base ?len ?next))
    case fresh => exact fun k hk => Or.inl (new_alloc w _ k hk)
    case base => simp
    case len => simpa using hl
    case next =>
      intro v1 w1 hown hg hat
      have hb1 : Below w.heap.size w w1 := (below_alloc (Below.refl _ w) _).grown hg (by simp) (fun k hk => by simp [Value.ownBlock] at hk; omega)
      obtain ⟨A', c', rfl, hc', hC⟩ := Kd.Own_C hown
      have HO := Aside.mk hown
      clear hg hat hown hC
      go_wp2
      go_ret
      exact ⟨A', c', rfl, HO.out, hb1⟩
theorem info_56 : (Try.prog.info? 128).map (fun i => (i.zero, i.size, i.bytes)) = some (some (.agg #[.int .i64 0, .int .i64 0, .slice none 0 0, .slice none 0 0]), (kGroup : Kd Group).sz, 64) := by kernel_rfl
set_option maxHeartbeats 2000000 in
theorem clone56_any (xs : List Group) (A : Option Addr) (c : Nat) (w : World) (Fr : Nat → Prop) (h : kGroup.C w Fr A xs.length xs) (hl : xs.length * 64 ≤ 140737488355328) :
    Calls Try.prog 56 #[.slice A xs.length c] w fun e w' => ∃ A' c', e = .returned (.slice A' xs.length c') ∧ kGroup.Own 128 w' (NewOr w Fr) w.heap.size (.slice A' xs.length c') xs ∧ Below w.heap.size w w' := by
  have hn := h.2.1
  have HC := Aside.mk h
  have he := Lib.run_eql_slice_nil (P := Try.prog) w 52 _ A xs.length c 0 0 Try.underlying52
  cases A with
  | none =>
    have h0 : xs = [] := by
      rcases Nat.eq_zero_or_pos xs.length with h0 | h0
      · exact List.eq_nil_of_length_eq_zero h0
      · obtain ⟨ad, h, _⟩ := h.2.2 h0; cases h
    subst h0
    clear h
    simp only [List.length_nil, Option.isNone_none] at he
    go_enter Try.func56, Try.ntmps56
    go_wp2
    go_ret
    exact ⟨none, 0, rfl, Kd.Own_nil _ _ _ _ _, Below.refl _ _⟩
  | some ad =>
    clear h
    simp only [Option.isNone_some] at he
    go_enter Try.func56, Try.ntmps56
    go_wp2_with (at_builtin; go_must (refine Kd.append_rowE kGroup (W := w.alloc (.cells #[] 128)) w.heap.size rfl (.tmp 5) (.tmp 6) 52 128 (.agg #[.int .i64 0, .int .i64 0, .slice none 0 0, .slice none 0 0]) 64 rfl Try.underlying52 info_56 rfl (by decide) (by decide) (.slice (some ⟨w.heap.size, 0, none⟩) 0 0) [] xs (some ad) xs.length c (NewOr w Fr) _ (fun k => Fr k ∧ k < w.heap.size) rfl rfl (Kd.Own_made kGroup 128 w _ _ (Nat.le_refl _) (Or.inl (Nat.le_refl _))) (Kd.C_below (Kd.C_lt HC.out) (below_alloc (Below.refl _ _) _)) (fun _ _ _ h => h) (made_far w) ?fresh ?base ?len ?next))
    case fresh => exact fun k hk => Or.inl (new_alloc w _ k hk)
    case base => simp
    case len => simpa using hl
    case next =>
      intro v1 w1 hown hg hat
      have hb1 : Below w.heap.size w w1 := (below_alloc (Below.refl _ w) _).grown hg (by simp) (fun k hk => by simp [Value.ownBlock] at hk; omega)
      obtain ⟨A', c', rfl, hc', hC⟩ := Kd.Own_C hown
      have HO := Aside.mk hown
      clear hg hat hown hC
      go_wp2
      go_ret
      exact ⟨A', c', rfl, HO.out, hb1⟩
theorem info_57 : (Try.prog.info? 131).map (fun i => (i.zero, i.size, i.bytes)) = some (some (.agg #[.int .u64 0, .int .i64 0, .slice none 0 0]), (kPartial : Kd Partial).sz, 40) := by kernel_rfl
set_option maxHeartbeats 2000000 in
theorem clone57_any (xs : List Partial) (A : Option Addr) (c : Nat) (w : World) (Fr : Nat → Prop) (h : kPartial.C w Fr A xs.length xs) (hl : xs.length * 40 ≤ 140737488355328) :
    Calls Try.prog 57 #[.slice A xs.length c] w fun e w' => ∃ A' c', e = .returned (.slice A' xs.length c') ∧ kPartial.Own 131 w' (NewOr w Fr) w.heap.size (.slice A' xs.length c') xs ∧ Below w.heap.size w w' := by
  have hn := h.2.1
  have HC := Aside.mk h
  have he := Lib.run_eql_slice_nil (P := Try.prog) w 126 _ A xs.length c 0 0 Try.underlying126
  cases A with
  | none =>
    have h0 : xs = [] := by
      rcases Nat.eq_zero_or_pos xs.length with h0 | h0
      · exact List.eq_nil_of_length_eq_zero h0
      · obtain ⟨ad, h, _⟩ := h.2.2 h0; cases h
    subst h0
    clear h
    simp only [List.length_nil, Option.isNone_none] at he
    go_enter Try.func57, Try.ntmps57
    go_wp2
    go_ret
    exact ⟨none, 0, rfl, Kd.Own_nil _ _ _ _ _, Below.refl _ _⟩
  | some ad =>
    clear h
    simp only [Option.isNone_some] at he
    go_enter Try.func57, Try.ntmps57
    go_wp2_with (at_builtin; go_must (refine Kd.append_rowE kPartial (W := w.alloc (.cells #[] 131)) w.heap.size rfl (.tmp 5) (.tmp 6) 126 131 (.agg #[.int .u64 0, .int .i64 0, .slice none 0 0]) 40 rfl Try.underlying126 info_57 rfl (by decide) (by decide) (.slice (some ⟨w.heap.size, 0, none⟩) 0 0) [] xs (some ad) xs.length c (NewOr w Fr) _ (fun k => Fr k ∧ k < w.heap.size) rfl rfl (Kd.Own_made kPartial 131 w _ _ (Nat.le_refl _) (Or.inl (Nat.le_refl _))) (Kd.C_below (Kd.C_lt HC.out) (below_alloc (Below.refl _ _) _)) (fun _ _ _ h => h) (made_far w) ?fresh ?base ?len ?next))
    case fresh => exact fun k hk => Or.inl (new_alloc w _ k hk)
    case base => simp
    case len => simpa using hl
    case next =>
      intro v1 w1 hown hg hat
      have hb1 : Below w.heap.size w w1 := (below_alloc (Below.refl _ w) _).grown hg (by simp) (fun k hk => by simp [Value.ownBlock] at hk; omega)
      obtain ⟨A', c', rfl, hc', hC⟩ := Kd.Own_C hown
      have HO := Aside.mk hown
      clear hg hat hown hC
      go_wp2
      go_ret
      exact ⟨A', c', rfl, HO.out, hb1⟩
end Go.Proofs.Ytjpeaeklhcnpnaa.K
