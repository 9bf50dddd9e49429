/- slices.Clone of ints by a contract. No condition but a length that fits. -/
import Derived.Test.YteleaflneejipaaDoorPQx0
import Derived.WalkKit
import Derived.Lib.SliceRun
namespace Go.Proofs.YteleaflneejipaaDoor
open Go.RowKit Go.Proofs.YteleaflneejipaaDoorW.PrintWords
set_option linter.unusedVariables false
theorem c_info3 : (Tryd.prog.info? 3).map (fun i => (i.zero, i.size, i.bytes)) = some (some (.int .i64 0), 1, 8) := by kernel_rfl
set_option maxHeartbeats 2000000 in
set_option maxRecDepth 100000 in
theorem clone_at (A0 : Option Addr) (c0 : Nat) (l0 : List Int) (w : World) (hr0 : Kd.C (Kd.int .i64) w A0 l0.length l0) (hc0 : l0.length ≤ c0) (hl : l0.length ≤ 8796093022208) :
    Calls Tryd.prog 19 #[.slice A0 l0.length c0] w fun e w' => ∃ v0_ : Value, e = .returned (v0_) ∧ Kd.R (Kd.int .i64) 3 w' w.heap.size (fun _ => True) v0_ l0 ∧ Below w.heap.size w w' := by
  have q22 : ∀ (w : World) (a : Option Addr) (n c n' c' : Nat), (binOp .eql 22 (.slice a n c) (.slice none n' c')).run Tryd.prog w = .ok (.bool a.isNone) w := fun w a n c n' c' => Lib.run_eql_slice_nil w _ _ a n c n' c' Tryd.underlying22
  have HR0 := Aside0.mk hr0
  have HB := Aside0.mk (Below.refl w.heap.size w)
  clear hr0
  rcases A0 with _ | ad
  · have h0 : l0.length = 0 := by
      rcases Nat.eq_zero_or_pos l0.length with h0 | h0
      · exact h0
      · obtain ⟨ad, h, _⟩ := HR0.out.2.2 h0
        cases h
    obtain rfl : l0 = [] := List.eq_nil_of_length_eq_zero h0
    go_enter Tryd.func19, Tryd.ntmps19
    go_wp2
    go_ret
    exact ⟨_, rfl, Kd.R_nil _ _ _ _ _, Below.refl _ _⟩
  · go_enter Tryd.func19, Tryd.ntmps19
    go_wp2_with (first
      | ((with_reducible refine gate_dst (N := 5) rfl ?_); refine Kd.R_lit (w0 := w) (Kd.int .i64) w.heap.size 3 ?hg (N := 5) ?hd (xs := ([] : List Int)) (inner := []) (ok := fun _ => True) (okp := fun _ => True) ?hr ?hp (fun _ hk => hk) trivial (Below.refl _ _) (Nat.le_refl _) (by simp) ?_; (case hd => rfl); (case hg => rfl); (case hr => first | (go_simp; done) | (go_simp; rfl)); (case hp => exact (Reps.none _ _)); intro v5 w3 ho4 hb hg_ hnew_; have HO := Aside0.mk ho4; have HB := Aside0.mk hb; clear ho4 hb hg_ hnew_)
      | ((with_reducible refine gate_builtin (b := .append) (xs := #[.tmp 5, .tmp 6]) rfl ?_); at_builtin; refine Kd.R_append_row (Value.int .i64) 0 (w0 := w) w.heap.size rfl (.tmp 5) (.tmp 6) 22 3 (.int .i64 0) 8 rfl Tryd.underlying22 c_info3 rfl (by decide) v5 ([] : List Int) l0 _ _ _ (fun _ => True) rfl rfl (fun _ _ => trivial) HO.out (Kd.C_below HR0.out HB.out) HB.out HB.out.size (by simp; omega) ?_; intro v7 w4 ho hb hg hat; have HO2 := Aside0.mk ho; have HB2 := Aside0.mk hb; clear ho hb hg hat))
    go_ret
    exact ⟨_, rfl, HO2.out, HB2.out⟩
end Go.Proofs.YteleaflneejipaaDoor
