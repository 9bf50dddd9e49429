/- The law QueryErrors walked; written by a program. -/
import Derived.Test.YteleaflneejipaaDoorE4
import Derived.Deep.CutBlock
import Derived.Deep.DeepCutAuto
namespace Go.Proofs.YteleaflneejipaaDoor
open Go.RowKit Go.Proofs.YteleaflneejipaaDoorW.PrintWords Go.Proofs.YteleaflneejipaaDoorW.PrintLast Go.Proofs.YteleaflneejipaaDoorW.PrintMore
set_option linter.unusedVariables false
theorem ptr_ne_self (a : Addr) (w : World) : (binOp .neq 45 (.pointer (some a)) (.pointer (some a))).run Tryd.prog w = .ok (.bool false) w := by
  obtain ⟨j, hj, _⟩ := Option.map_eq_some_iff.1 (show (Tryd.prog.info? 47).map (·.size) = some 2 by kernel_rfl)
  have h : ∀ d, (Op.equalIn (d + 1) 45 (.pointer (some a)) (.pointer (some a))).run Tryd.prog w = .ok true w := fun d => by simp [Op.equalIn, run_underlying Tryd.underlying45, typeInfo, sizeOf, run_sameAddr_same, hj]
  simp only [binOp]
  simp [Op.equal, Op.maxDepth, h 9999]
theorem error_nil (w : World) : Calls Tryd.prog 17 #[.pointer none] w fun ev w' => ev = .returned (.string ⟨#[113, 117, 101, 114, 121, 58, 32, 119, 114, 111, 110, 103, 32, 32, 48]⟩) ∧ Below w.heap.size w w' := by
  go_enter Tryd.func17, Tryd.ntmps17
  go_wp2_with fail
  go_quiet ((go_at_call 46; exact Calls.quiet_of_same (itoa_0 _)))
  go_wp2
  go_ret
  exact ⟨by first | rfl | kernel_rfl | (simp; done), pw_below_drewN (below_alloc (Below.refl _ _) _) _⟩
set_option maxHeartbeats 16000000 in
set_option maxRecDepth 100000 in
theorem law_errors (w : World) (hg : HandleAt w) (field : ByteArray) (at_ deep code : Int) (hd : -9223372036854775808 ≤ deep ∧ deep ≤ 9223372036854775807) :
    Calls Tryd.prog 5 #[.string field, .int .i64 at_, .int .i64 deep, .int .i64 code] w fun ev w' => ev = .returned (.bool true) ∧ Below w.heap.size w w' := by
  by_cases hn : deep < 0
  · go_enter Tryd.func5, Tryd.ntmps5
    go_wp2_with fail
    refine (awake_at w hg).mono ?_
    rintro e w0 ⟨rfl, hb0⟩
    have HB0 := Aside0.mk hb0
    clear hb0
    go_upto_region 7 with (fail)
    obtain ⟨d, hd2, hd20⟩ : ∃ d : Nat, -(deep + 1).tmod 20 = (d : Int) ∧ d ≤ 20 := by
      have e : -(deep + 1).tmod 20 = (-(deep + 1)).tmod 20 := by rw [Int.neg_tmod]
      have h1 := Int.tmod_nonneg (a := -(deep + 1)) 20 (by omega)
      have h2 := Int.tmod_lt_of_pos (-(deep + 1)) (show (0 : Int) < 20 by decide)
      exact ⟨((-(deep + 1)).tmod 20).toNat, by rw [e]; omega, by omega⟩

    have HD := Aside0.mk hd20
    rw [hd2]
    clear hd2
    go_wp2_with fail
    refine (new_any _ _).mono ?_
    rintro ev w1 ⟨rfl, hb1⟩
    have HB1 := Aside0.mk (below_step (below_alloc HB0.out (.cells #[.string field, .int .i64 at_] 47)) hb1)
    have hlt1 : w0.heap.size < w1.heap.size := by have := hb1.size; simp at this; omega
    clear hb1
    go_wp2
    go_loopg [11, 12, 13, 14] d (fun kq v11 v12 v13 v14 w' => ∃ i : Nat, v14 = .int .i64 i ∧ i + kq = d ∧ v11 = wraps i (.iface 45 (.pointer (some ⟨w0.heap.size, 0, none⟩))) ∧ v12 = wraps i (.iface 48 (.int .i64 code)) ∧ v13 = wraps i (.iface 74 (.pointer (some ⟨w0.heap.size + 1, 0, none⟩))) ∧ w' = w1)
    case atStart => exact ⟨0, rfl, by omega, rfl, rfl, by first | rfl | (simp; rfl) | simp [wraps], rfl⟩
    case round =>
      obtain ⟨i, rfl, hi, rfl, rfl, rfl, rfl⟩ := hrel
      have hd20 := HD.out
      rcases Nat.lt_or_ge i d with hlt | hge
      · have c1 : (i : Int) < (d : Int) := by omega
        obtain ⟨u1, x1, h1⟩ := wraps_iface i 45 (.pointer (some ⟨w0.heap.size, 0, none⟩))
        obtain ⟨u2, x2, h2⟩ := wraps_iface i 48 (.int .i64 code)
        obtain ⟨u3, x3, h3⟩ := wraps_iface i 74 (.pointer (some ⟨w0.heap.size + 1, 0, none⟩))
        have HU1 := Aside0.mk h1
        have HU2 := Aside0.mk h2
        have HU3 := Aside0.mk h3
        rw [h1, h2, h3]
        clear h1 h2 h3
        go_wp2
        go_roundg (gk - 1)
        case measure => omega
        case rel => exact ⟨i + 1, by go_num, by omega, by rw [wraps, HU1.out], by rw [wraps, HU2.out], by rw [wraps, HU3.out], rfl⟩
      · have c1 : ¬ (i : Int) < (d : Int) := by omega
        have hbA := below_alloc HB1.out (.cells #[.pointer none] 45)
        have HI80 := Aside0.mk (is_chain ⟨w0.heap.size, 0, none⟩ 80 true rfl i)
        have HI90 := Aside0.mk (is_chain ⟨w0.heap.size, 0, none⟩ 90 false rfl i)
        go_wp2_with fail
        refine (HI80.out _).mono ?_
        rintro ev w2 ⟨rfl, hb2⟩
        have HB2 := Aside0.mk (below_step hbA hb2)
        have HT2 := Aside0.mk (blk_below (blk_new wr (.cells #[.pointer none] 45)) hb2)
        clear hb2 hbA
        go_wp2_with fail
        refine (asW ⟨w0.heap.size, 0, none⟩ i wr.heap.size (.pointer none) w w2 (hg.below HB2.out) HB2.out HB1.out.size HT2.out).mono ?_
        rintro ev w3 ⟨rfl, ht3, hb3⟩
        have HB3 := Aside0.mk hb3
        have HT3 := Aside0.mk ht3
        clear hb3 ht3 HT2
        go_wp2_with fail
        refine (HI90.out _).mono ?_
        rintro ev w4 ⟨rfl, hb4⟩
        have HB4 := Aside0.mk (below_step HB3.out hb4)
        have HT4 := Aside0.mk (blk_below HT3.out hb4)
        clear hb4 HT3
        go_wp2_with fail
        refine (unwrap_nil _).mono ?_
        rintro ev w5 ⟨rfl, rfl⟩
        go_wp2_with fail
        refine (is_self _).mono ?_
        rintro ev w5 ⟨rfl, rfl⟩
        have hT := (blk_cell HT4.out 0).trans rfl
        have hpp := ptr_ne_self
        go_wp2_with fail
        refine (error_nil _).mono ?_
        rintro ev w6 ⟨rfl, hb6⟩
        have HB6 := Aside0.mk (below_step HB4.out hb6)
        clear hb6 hT
        go_wp2_with fail
        refine (codeW ⟨w0.heap.size, 0, none⟩ i _ (hg.below HB6.out)).mono ?_
        rintro ev w7 ⟨rfl, hb7⟩
        have HB7 := Aside0.mk (below_step HB6.out hb7)
        clear hb7
        go_wp2_with fail
        refine (codeC code i _ (hg.below HB7.out)).mono ?_
        rintro ev w8 ⟨rfl, hb8⟩
        have HB8 := Aside0.mk (below_step HB7.out hb8)
        clear hb8
        go_wp2_with fail
        refine (codeS ⟨w0.heap.size + 1, 0, none⟩ i _ (hg.below HB8.out)).mono ?_
        rintro ev w9 ⟨rfl, hb9⟩
        have HB9 := Aside0.mk (below_step HB8.out hb9)
        clear hb9
        go_wp2_with fail
        refine (code_nil _).mono ?_
        rintro ev w10 ⟨rfl, hb10⟩
        have HB10 := Aside0.mk (below_step HB9.out hb10)
        clear hb10
        go_wp2
        go_ret
        exact ⟨rfl, HB10.out⟩
  · go_enter Tryd.func5, Tryd.ntmps5
    go_wp2_with fail
    refine (awake_at w hg).mono ?_
    rintro e w0 ⟨rfl, hb0⟩
    have HB0 := Aside0.mk hb0
    clear hb0
    go_upto_region 7 with (fail)
    obtain ⟨d, hd2, hd20⟩ : ∃ d : Nat, deep % 20 = (d : Int) ∧ d ≤ 20 := ⟨(deep % 20).toNat, by omega, by omega⟩

    have HD := Aside0.mk hd20
    rw [hd2]
    clear hd2
    go_wp2_with fail
    refine (new_any _ _).mono ?_
    rintro ev w1 ⟨rfl, hb1⟩
    have HB1 := Aside0.mk (below_step (below_alloc HB0.out (.cells #[.string field, .int .i64 at_] 47)) hb1)
    have hlt1 : w0.heap.size < w1.heap.size := by have := hb1.size; simp at this; omega
    clear hb1
    go_wp2
    go_loopg [11, 12, 13, 14] d (fun kq v11 v12 v13 v14 w' => ∃ i : Nat, v14 = .int .i64 i ∧ i + kq = d ∧ v11 = wraps i (.iface 45 (.pointer (some ⟨w0.heap.size, 0, none⟩))) ∧ v12 = wraps i (.iface 48 (.int .i64 code)) ∧ v13 = wraps i (.iface 74 (.pointer (some ⟨w0.heap.size + 1, 0, none⟩))) ∧ w' = w1)
    case atStart => exact ⟨0, rfl, by omega, rfl, rfl, by first | rfl | (simp; rfl) | simp [wraps], rfl⟩
    case round =>
      obtain ⟨i, rfl, hi, rfl, rfl, rfl, rfl⟩ := hrel
      have hd20 := HD.out
      rcases Nat.lt_or_ge i d with hlt | hge
      · have c1 : (i : Int) < (d : Int) := by omega
        obtain ⟨u1, x1, h1⟩ := wraps_iface i 45 (.pointer (some ⟨w0.heap.size, 0, none⟩))
        obtain ⟨u2, x2, h2⟩ := wraps_iface i 48 (.int .i64 code)
        obtain ⟨u3, x3, h3⟩ := wraps_iface i 74 (.pointer (some ⟨w0.heap.size + 1, 0, none⟩))
        have HU1 := Aside0.mk h1
        have HU2 := Aside0.mk h2
        have HU3 := Aside0.mk h3
        rw [h1, h2, h3]
        clear h1 h2 h3
        go_wp2
        go_roundg (gk - 1)
        case measure => omega
        case rel => exact ⟨i + 1, by go_num, by omega, by rw [wraps, HU1.out], by rw [wraps, HU2.out], by rw [wraps, HU3.out], rfl⟩
      · have c1 : ¬ (i : Int) < (d : Int) := by omega
        have hbA := below_alloc HB1.out (.cells #[.pointer none] 45)
        have HI80 := Aside0.mk (is_chain ⟨w0.heap.size, 0, none⟩ 80 true rfl i)
        have HI90 := Aside0.mk (is_chain ⟨w0.heap.size, 0, none⟩ 90 false rfl i)
        go_wp2_with fail
        refine (HI80.out _).mono ?_
        rintro ev w2 ⟨rfl, hb2⟩
        have HB2 := Aside0.mk (below_step hbA hb2)
        have HT2 := Aside0.mk (blk_below (blk_new wr (.cells #[.pointer none] 45)) hb2)
        clear hb2 hbA
        go_wp2_with fail
        refine (asW ⟨w0.heap.size, 0, none⟩ i wr.heap.size (.pointer none) w w2 (hg.below HB2.out) HB2.out HB1.out.size HT2.out).mono ?_
        rintro ev w3 ⟨rfl, ht3, hb3⟩
        have HB3 := Aside0.mk hb3
        have HT3 := Aside0.mk ht3
        clear hb3 ht3 HT2
        go_wp2_with fail
        refine (HI90.out _).mono ?_
        rintro ev w4 ⟨rfl, hb4⟩
        have HB4 := Aside0.mk (below_step HB3.out hb4)
        have HT4 := Aside0.mk (blk_below HT3.out hb4)
        clear hb4 HT3
        go_wp2_with fail
        refine (unwrap_nil _).mono ?_
        rintro ev w5 ⟨rfl, rfl⟩
        go_wp2_with fail
        refine (is_self _).mono ?_
        rintro ev w5 ⟨rfl, rfl⟩
        have hT := (blk_cell HT4.out 0).trans rfl
        have hpp := ptr_ne_self
        go_wp2_with fail
        refine (error_nil _).mono ?_
        rintro ev w6 ⟨rfl, hb6⟩
        have HB6 := Aside0.mk (below_step HB4.out hb6)
        clear hb6 hT
        go_wp2_with fail
        refine (codeW ⟨w0.heap.size, 0, none⟩ i _ (hg.below HB6.out)).mono ?_
        rintro ev w7 ⟨rfl, hb7⟩
        have HB7 := Aside0.mk (below_step HB6.out hb7)
        clear hb7
        go_wp2_with fail
        refine (codeC code i _ (hg.below HB7.out)).mono ?_
        rintro ev w8 ⟨rfl, hb8⟩
        have HB8 := Aside0.mk (below_step HB7.out hb8)
        clear hb8
        go_wp2_with fail
        refine (codeS ⟨w0.heap.size + 1, 0, none⟩ i _ (hg.below HB8.out)).mono ?_
        rintro ev w9 ⟨rfl, hb9⟩
        have HB9 := Aside0.mk (below_step HB8.out hb9)
        clear hb9
        go_wp2_with fail
        refine (code_nil _).mono ?_
        rintro ev w10 ⟨rfl, hb10⟩
        have HB10 := Aside0.mk (below_step HB9.out hb10)
        clear hb10
        go_wp2
        go_ret
        exact ⟨rfl, HB10.out⟩
end Go.Proofs.YteleaflneejipaaDoor
