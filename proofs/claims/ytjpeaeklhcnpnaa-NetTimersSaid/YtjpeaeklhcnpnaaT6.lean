/- slices.IndexFunc and slices.DeleteFunc over the sorted ids with the closure that asks whether a timer is not yet due. No condition. -/
import Derived.Test.YtjpeaeklhcnpnaaT5
namespace Go.Proofs.Ytjpeaeklhcnpnaa.K
open Go.RowKit Go.Sort
set_option linter.unusedVariables false
set_option linter.unusedSimpArgs false
theorem Cls.trans {A B C : World} (h : Cls A B) (k : Cls B C) : Cls A C := ⟨h.below.trans (k.below.mono h.below.size), Nat.le_trans h.drawn k.drawn⟩
theorem cell_lt {w : World} {a : Addr} {v : Value} (h : w.cell? a = some v) : a.block < w.heap.size := by
  obtain ⟨o, ho, _⟩ := not_walk_of_cell h
  exact (Array.getElem?_eq_some_iff.1 ho).1
theorem Cls.cell {W V : World} (h : Cls W V) {a : Addr} {v : Value} (hc : W.cell? a = some v) : V.cell? a = some v := (World.cell?_of_block (h.below.block _ (cell_lt hc))).trans hc
/-- The closure's surroundings. -/
structure DueAt (W : World) (tb mb n sz : Nat) (g : Int → Option Int) (B2 B3 : Nat) (now : Int) : Prop where
  tim : TimAt W tb mb n sz g
  c2 : W.cell? ⟨B2, 0, none⟩ = some (.pointer (some ⟨tb, 0, none⟩))
  c3 : W.cell? ⟨B3, 0, none⟩ = some (.int .i64 now)
theorem DueAt.cls {W V : World} {tb mb n sz B2 B3 : Nat} {g : Int → Option Int} {now : Int} (h : DueAt W tb mb n sz g B2 B3 now) (hc : Cls W V) : DueAt V tb mb n sz g B2 B3 now := ⟨h.tim.cls hc, hc.cell h.c2, hc.cell h.c3⟩
section
variable {W : World} {tb mb n sz B2 B3 : Nat} {g : Int → Option Int} {now : Int}
set_option maxHeartbeats 4000000 in
set_option maxRecDepth 100000 in
theorem late48 (h : DueAt W tb mb n sz g B2 B3 now) {x : Int} (hx : (Lit.int .u64 x).wf = true) (b : Bool) (hb : decide (now < atOf g x) = b) :
    Calls Try.prog 48 #[.int .u64 x, .pointer (some ⟨B2, 0, none⟩), .pointer (some ⟨B3, 0, none⟩)] W fun e w' => e = .returned (.bool b) ∧ Cls W w' := by
  have hS : ∀ V, Cls W V → Cls W V ∧ V.cell? ⟨B2, 0, none⟩ = some (.pointer (some ⟨tb, 0, none⟩)) ∧ V.cell? ⟨tb, 0, none⟩ = some (.map (some mb)) ∧ V.cell? ⟨B3, 0, none⟩ = some (.int .i64 now) ∧
      (Instr.lookup 75 (.map (some mb)) (.int .u64 x) false).run Try.prog V = .ok (.int .i64 (atOf g x)) V := fun V hV =>
    ⟨hV, (h.cls hV).c2, (h.cls hV).tim.cell, (h.cls hV).c3, (h.cls hV).tim.look hx⟩
  have hW := Cls.refl W
  subst hb
  clear h hx
  go_enter Try.func48, Try.ntmps48
  go_wp2_with fail
  go_region_held3 (fun V : World => Cls W V ∧ V.cell? ⟨B2, 0, none⟩ = some (.pointer (some ⟨tb, 0, none⟩)) ∧ V.cell? ⟨tb, 0, none⟩ = some (.map (some mb)) ∧ V.cell? ⟨B3, 0, none⟩ = some (.int .i64 now) ∧
      (Instr.lookup 75 (.map (some mb)) (.int .u64 x) false).run Try.prog V = .ok (.int .i64 (atOf g x)) V)
    (first | exact hS _ (Cls.drew (by go_split_ands; assumption)) | exact hS _ (by go_split_ands; assumption))
    (fail)
  all_goals
    go_wp2
    go_ret
    exact ⟨rfl, by go_split_ands; assumption⟩
theorem index73_nil (W : World) (f : Value) : Calls Try.prog 73 #[.slice none 0 0, f] W fun e w' => e = .returned (.int .i64 (-1)) ∧ w' = W := by
  go_enter Try.func73, Try.ntmps73
  go_wp2
  refine wp_loop_rounds 1 ?_
  rw [rounds_succ]
  go_wp2
  go_ret
  exact ⟨rfl, rfl⟩
/-- Up to m the ids are due, from m on they aren't. -/
structure Parted (g : Int → Option Int) (now : Int) (ks : List Int) (m : Nat) : Prop where
  le : m ≤ ks.length
  wf : ∀ k ∈ ks, (Lit.int .u64 k).wf = true
  due : ∀ i (hi : i < ks.length), i < m → ¬ now < atOf g ks[i]
  late : ∀ i (hi : i < ks.length), m ≤ i → now < atOf g ks[i]
set_option maxHeartbeats 4000000 in
set_option maxRecDepth 100000 in
theorem index73 (h : DueAt W tb mb n sz g B2 B3 now) {gb off cap m : Nat} {ks : List Int} (hU : URow W gb off cap ks) (hP : Parted g now ks m) {r : Int} (hr1 : m < ks.length → r = m) (hr2 : m = ks.length → r = -1) :
    Calls Try.prog 73 #[.slice (some ⟨gb, off, none⟩) ks.length cap, .func (.func 48) #[] #[.pointer (some ⟨B2, 0, none⟩), .pointer (some ⟨B3, 0, none⟩)]] W fun e w' => e = .returned (.int .i64 r) ∧ Cls W w' := by
  have HC : ∀ V, Aside (Cls W V) → ∀ (i : Nat) (hi : i < ks.length), i < m → Aside (Calls Try.prog 48 #[.int .u64 ks[i], .pointer (some ⟨B2, 0, none⟩), .pointer (some ⟨B3, 0, none⟩)] V fun e w' => e = .returned (.bool false) ∧ Cls V w') :=
    fun V hV i hi him => ⟨late48 (h.cls hV.out) (hP.wf _ (List.getElem_mem hi)) false (decide_eq_false (hP.due i hi him))⟩
  have HL : ∀ V, Aside (Cls W V) → ∀ (i : Nat) (hi : i < ks.length), m ≤ i → Aside (Calls Try.prog 48 #[.int .u64 ks[i], .pointer (some ⟨B2, 0, none⟩), .pointer (some ⟨B3, 0, none⟩)] V fun e w' => e = .returned (.bool true) ∧ Cls V w') :=
    fun V hV i hi him => ⟨late48 (h.cls hV.out) (hP.wf _ (List.getElem_mem hi)) true (decide_eq_true (hP.late i hi him))⟩
  have HU := Aside.mk hU
  have hm := hP.le
  have hfit : ks.length ≤ 9223372036854775807 := Nat.le_trans hU.len hU.fit
  have hcap := hU.len
  clear h hU hP
  go_enter Try.func73, Try.ntmps73
  go_wp2
  go_loopw [8] (fun v8 wr => ∃ i : Nat, i ≤ m ∧ v8 = .int .i64 i ∧ Aside (Cls W wr)) (fun v8 _ => ks.length - (intOf v8).toNat)
  case atStart => exact ⟨0, Nat.zero_le _, rfl, ⟨Cls.refl W⟩⟩
  case round =>
    obtain ⟨i, him, rfl, hC⟩ := hrel
    by_cases hlt : i < ks.length
    · have f1 : wr.cell? ⟨gb, off + i, none⟩ = some (.int .u64 ks[i]) := hC.out.cell (HU.out.at_ i _ (List.getElem?_eq_getElem hlt))
      by_cases hi2 : i < m
      · have H1 := HC wr hC i hlt hi2
        generalize hx : ks[i] = x at f1 H1
        clear hx
        go_wp2_with (go_at_call 48; refine H1.out.mono ?_; rintro e w1 ⟨rfl, hc1⟩; have HC1 := Aside.mk (hC.out.trans hc1); clear hc1)
        go_round
        case rel => exact ⟨i + 1, by omega, rfl, HC1⟩
        case measure => simp only [intOf]; omega
      · obtain rfl : i = m := by omega
        have H1 := HL wr hC i hlt (Nat.le_refl _)
        obtain rfl := hr1 hlt
        generalize hx : ks[i] = x at f1 H1
        clear hx
        go_wp2_with (go_at_call 48; refine H1.out.mono ?_; rintro e w1 ⟨rfl, hc1⟩; have HC1 := Aside.mk (hC.out.trans hc1); clear hc1)
        go_ret
        exact ⟨rfl, HC1.out⟩
    · have hml : m = ks.length := by omega
      obtain rfl := hr2 hml
      obtain rfl : i = ks.length := by omega
      go_wp2
      go_ret
      exact ⟨rfl, hC.out⟩
end
end Go.Proofs.Ytjpeaeklhcnpnaa.K
