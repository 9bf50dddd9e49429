/- slices.DeleteFunc over the sorted ids: those that are due stay. No condition. -/
import Derived.Test.YtjpeaeklhcnpnaaT6
namespace Go.Proofs.Ytjpeaeklhcnpnaa.K
open Go.RowKit Go.Sort
set_option linter.unusedVariables false
set_option linter.unusedSimpArgs false
theorem zero28 (w : World) : (zeroValue 28).run Try.prog w = .ok (.int .u64 0) w := by kernel_rfl
theorem run_clear28 (w : World) (ty : TypeId) (g o n c : Nat) (ht : w.there g o n) : (Builtin.clear_ #[79] ty #[.slice (some ⟨g, o, none⟩) n c]).run Try.prog w = .ok (.tuple #[]) (w.setCells g o (us (List.replicate n 0))) := by
  have hl : (us (List.replicate n 0)).length = n := by simp [us]
  have hst := run_storeCells_cells (P := Try.prog) g o (us (List.replicate n 0)) 0 w (fun j hj => by simpa using (ht j (by rw [hl] at hj; exact hj)).1) (fun j hj => by simpa using (ht j (by rw [hl] at hj; exact hj)).2) (us_one _)
  simp only [Nat.add_zero] at hst
  cases n with
  | zero => simp [Builtin.clear_, run_underlying Try.underlying79, us, World.setCells]
  | succ n => simp [Builtin.clear_, run_underlying Try.underlying79, zero28, zeros28, hst]
theorem us_zero_lay {w : World} {g off cap m : Nat} {ks : List Int} (h : URow w g off cap ks) (hm : m ≤ ks.length) : URow (w.setCells g (off + m) (us (List.replicate (ks.length - m) 0))) g off cap (ks.take m) := by
  have hc := h.len
  have h1 := h.lay (i := m) hm (ys := List.replicate (ks.length - m) 0) (by rw [List.length_replicate]; omega) (by rw [List.length_replicate]; omega)
  obtain ⟨h2, h3, h4, h5⟩ := h1
  refine ⟨h2, by rw [List.length_take]; omega, h4, fun j x hj => h5 j x ?_⟩
  have hlt := (List.getElem?_eq_some_iff.1 hj).1
  rw [List.getElem?_append_left hlt]
  exact hj
section
variable {W : World} {tb mb n sz B2 B3 : Nat} {g : Int → Option Int} {now : Int}
set_option maxHeartbeats 4000000 in
set_option maxRecDepth 100000 in
theorem delete47_core (h : DueAt W tb mb n sz g B2 B3 now) {gb off cap m : Nat} {ks : List Int} (hU : URow W gb off cap ks) (hP : Parted g now ks m) (hlt : m < ks.length) :
    Calls Try.prog 47 #[.slice (some ⟨gb, off, none⟩) ks.length cap, .func (.func 48) #[] #[.pointer (some ⟨B2, 0, none⟩), .pointer (some ⟨B3, 0, none⟩)]] W fun e w' => e = .returned (.slice (some ⟨gb, off, none⟩) m cap) ∧ ∃ V, Cls W V ∧ w' = V.setCells gb (off + m) (us (List.replicate (ks.length - m) 0)) := by
  have HX := Aside.mk (index73 h hU hP (r := m) (fun _ => rfl) (fun e => by omega))
  have HL : ∀ V, Aside (Cls W V) → ∀ (i : Nat) (hi : i < ks.length), m ≤ i → Aside (Calls Try.prog 48 #[.int .u64 ks[i], .pointer (some ⟨B2, 0, none⟩), .pointer (some ⟨B3, 0, none⟩)] V fun e w' => e = .returned (.bool true) ∧ Cls V w') :=
    fun V hV i hi him => ⟨late48 (h.cls hV.out) (hP.wf _ (List.getElem_mem hi)) true (decide_eq_true (hP.late i hi him))⟩
  have HU := Aside.mk hU
  have hfit : ks.length ≤ 9223372036854775807 := Nat.le_trans hU.len hU.fit
  have hcap := hU.len
  have hclr : ∀ V, Cls W V → ∀ ty c, (Builtin.clear_ #[79] ty #[.slice (some ⟨gb, off + m, none⟩) (ks.length - m) c]).run Try.prog V = .ok (.tuple #[]) (V.setCells gb (off + m) (us (List.replicate (ks.length - m) 0))) := fun V hV ty c =>
    run_clear28 V ty gb (off + m) (ks.length - m) c fun j hj => by
      have h1 : URow V gb off cap ks := hU.same (hV.below.block gb hU.lt)
      rw [Nat.add_assoc]
      exact ⟨h1.some_ (by omega), h1.free _⟩
  have HCL := Aside.mk hclr
  have hw1 : IntKind.i64.wrap ((m : Int) + 1) = (m : Int) + 1 := by rw [IntKind.wrap_i64]; omega
  have hne : ((m : Int) == -1) = false := by simp
  have hmc : m ≤ cap := by omega
  have hml : m ≤ ks.length := by omega
  clear h hU hP hclr
  go_enter Try.func47, Try.ntmps47
  go_wp2_with (go_at_call 73; refine HX.out.mono ?_; rintro e w1 ⟨rfl, hc1⟩; have HC1 := Aside.mk hc1; clear hc1)
  go_loopw [5, 6] (fun v5 v6 wr => ∃ j : Nat, m < j ∧ j ≤ ks.length ∧ v5 = .int .i64 m ∧ v6 = .int .i64 j ∧ Aside (Cls W wr)) (fun v5 v6 _ => ks.length - (intOf v6).toNat)
  case atStart => exact ⟨m + 1, by omega, by omega, rfl, by simp, HC1⟩
  case round =>
    obtain ⟨j, hmj, hjl, rfl, rfl, hC⟩ := hrel
    by_cases hj : j < ks.length
    · have f1 : wr.cell? ⟨gb, off + j, none⟩ = some (.int .u64 ks[j]) := hC.out.cell (HU.out.at_ j _ (List.getElem?_eq_getElem hj))
      have H1 := HL wr hC j hj (by omega)
      generalize hx : ks[j] = x at f1 H1
      clear hx
      go_wp2_with (go_at_call 48; refine H1.out.mono ?_; rintro e w2 ⟨rfl, hc1⟩; have HC2 := Aside.mk (hC.out.trans hc1); clear hc1)
      go_round
      case rel => exact ⟨j + 1, by omega, by omega, rfl, rfl, HC2⟩
      case measure => simp only [intOf]; omega
    · obtain rfl : j = ks.length := by omega
      have hclr := HCL.out wr hC.out
      go_wp2
      go_ret
      exact ⟨rfl, wr, hC.out, rfl⟩
set_option maxHeartbeats 4000000 in
theorem delete47 (h : DueAt W tb mb n sz g B2 B3 now) {base m : Nat} {v : Value} {ks : List Int} (hb : base ≤ W.heap.size) (hU : USl W (fun k => base ≤ k) v ks) (hP : Parted g now ks m) :
    Calls Try.prog 47 #[v, .func (.func 48) #[] #[.pointer (some ⟨B2, 0, none⟩), .pointer (some ⟨B3, 0, none⟩)]] W fun e w' => ∃ v', e = .returned v' ∧ USl w' (fun k => base ≤ k) v' (ks.take m) ∧ Below base W w' := by
  rcases hU with ⟨rfl, rfl⟩ | ⟨gb, off, cap, rfl, hgb, hU⟩
  · have HX := Aside.mk (index73_nil W (.func (.func 48) #[] #[.pointer (some ⟨B2, 0, none⟩), .pointer (some ⟨B3, 0, none⟩)]))
    clear h hP
    go_enter Try.func47, Try.ntmps47
    go_wp2_with (go_at_call 73; refine HX.out.mono ?_; rintro e w1 ⟨rfl, hw⟩; obtain rfl := hw.symm)
    go_ret
    exact ⟨_, rfl, .inl ⟨rfl, by simp⟩, Below.refl _ _⟩
  · by_cases hm : m < ks.length
    · refine (delete47_core h hU hP hm).mono ?_
      rintro e w' ⟨rfl, V, hV, rfl⟩
      have h1 := us_zero_lay (w := V) (hU.same (hV.below.block gb hU.lt)) hP.le
      refine ⟨_, rfl, .inr ⟨gb, off, cap, by rw [List.length_take, Nat.min_eq_left hP.le], hgb, h1⟩, ?_⟩
      exact below_setCells hgb _ _ _ (hV.below.mono hb)
    · have hml : m = ks.length := by have := hP.le; omega
      have HX := Aside.mk (index73 h hU hP (r := -1) (fun hlt => by omega) (fun _ => rfl))
      have HU := Aside.mk hU
      have HG := Aside.mk hgb
      subst hml
      clear h hU hP hgb
      go_enter Try.func47, Try.ntmps47
      go_wp2_with (go_at_call 73; refine HX.out.mono ?_; rintro e w1 ⟨rfl, hc1⟩; have HC1 := Aside.mk hc1; clear hc1)
      go_ret
      rw [List.take_length]
      exact ⟨_, rfl, .inr ⟨gb, off, cap, rfl, HG.out, HU.out.same (HC1.out.below.block gb HU.out.lt)⟩, HC1.out.below.mono hb⟩
end
end Go.Proofs.Ytjpeaeklhcnpnaa.K
