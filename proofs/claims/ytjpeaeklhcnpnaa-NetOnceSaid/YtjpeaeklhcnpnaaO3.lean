/- The law NetOnce returns true at every input: the walk. No condition. -/
import Derived.Test.YtjpeaeklhcnpnaaO2
namespace Go.Proofs.Ytjpeaeklhcnpnaa.K
open Go.RowKit
set_option linter.unusedVariables false
set_option linter.unusedSimpArgs false
def netLen (w : World) (b : Nat) : Nat := match w.cell? ⟨b, 0, none⟩ with
  | some (.slice _ n _) => n
  | _ => 0
theorem netLen_eq {w : World} {F : Nat → Prop} {b : Nat} {ms : List Msg} {last : Int} (h : NetAt w F b ms last) : netLen w b = ms.length := by
  obtain ⟨A, c, h1, _⟩ := h
  unfold netLen
  rw [blk_cell h1]
  rfl
set_option maxHeartbeats 8000000 in
set_option maxRecDepth 100000 in
theorem netOnce_any (w : World) (xs : List Op) (A : Option Addr) (n c : Nat) (hx : (Kd.slice 480 kOp).K w Any xs [.slice A n c]) :
    Calls Try.prog 5 #[.slice A n c] w fun e w' => e = .returned (.bool true) ∧ Below w.heap.size w w' := by
  have hmm := @run_makeMap Try.prog
  obtain ⟨A', c', he, hc, hb, hC⟩ := hx
  simp only [List.cons.injEq, and_true] at he
  injection he with e1 e2 e3
  subst e1 e2 e3
  have HC := Aside.mk hC
  clear hC
  go_enter Try.func5, Try.ntmps5
  go_wp2_with fail
  refine (awake_any w).mono ?_
  rintro e w1 ⟨rfl, hB1⟩
  have HB1 := Aside.mk hB1
  clear hB1
  go_wp2_with fail
  refine (new_any w1).mono ?_
  rintro e w2 ⟨rfl, hN, hB2⟩
  have HN2 := Aside.mk hN.known
  have HB2 := Aside.mk hB2
  clear hN hB2
  go_wp2_with fail
  go_loopw [7] (fun v7 wr => ∃ i : Nat, i ≤ xs.length ∧ i ≤ 100 ∧ v7 = .int .i64 i ∧ Aside (OLoop w w1.heap.size w2.heap.size (w2.heap.size + 1) i wr)) (fun v7 _ => xs.length - (intOf v7).toNat)
  case atStart => exact ⟨0, Nat.zero_le _, Nat.zero_le _, rfl, ⟨once_begin HB1.out HN2.out HB2.out⟩⟩
  case round =>
    obtain ⟨i, hi, hi2, rfl, HR⟩ := hrel
    generalize w1.heap.size = nb at *
    generalize w2.heap.size = sm at *
    generalize hcm : sm + 1 = cm at *
    clear hcm
    by_cases hlt : i < xs.length ∧ i < 100
    · obtain ⟨hlt1, hlt2⟩ := hlt
      obtain ⟨F, ms, last, cc, f, g, nf, ng, szg, hO, hP⟩ := HR.out
      obtain ⟨ln, rfl⟩ := Int.eq_ofNat_of_zero_le hP.l0
      rw [Int.toNat_natCast] at hO
      have HO := Aside.mk hO.known
      have HP := Aside.mk hP
      obtain ⟨ad, rfl, m0, m1, m2, hla, e1, e2, e3⟩ := op_at HC.out hO.below hlt1
      obtain ⟨x, hx⟩ : ∃ x, xs[i] = x := ⟨_, rfl⟩
      rw [hx] at m0 m1 m2 e1 e2 e3
      have HM := Aside.mk (And.intro m0 (And.intro hla e1))
      have HW := Aside.mk (waiting_any hO.net)
      have HA1 := Aside.mk e2
      clear hO hP m0 m2 e1 e2 e3 hla hx HR
      by_cases hms : 0 < ms.length
      · have hms' : (0 : Int) < (ms.length : Int) := by omega
        have hmz : ((ms.length : Int) == 0) = false := by rw [beq_eq_false_iff_ne]; omega
        go_wp2_with (go_at_call 22; refine HW.out.mono ?_; rintro e w' ⟨rfl, hw⟩; obtain rfl := hw.symm)
        refine (abs_any _ HA1.out _).mono ?_
        rintro e w' ⟨⟨k1, rfl⟩, hw⟩
        obtain rfl := hw.symm
        have hk1 : ((k1 : Int).tmod (ms.length : Int)) = ((k1 % ms.length : Nat) : Int) := (Int.ofNat_tmod _ _).symm
        have hkl : k1 % ms.length < ms.length := Nat.mod_lt _ hms
        generalize k1 % ms.length = kk at *
        have HK := Aside.mk (peek_yes HO.out.net kk hkl)
        go_wp2_with (go_at_call 22; refine HW.out.mono ?_; rintro e w' ⟨rfl, hw⟩; obtain rfl := hw.symm)
        refine HK.out.mono ?_
        rintro e w3 ⟨cs, rfl, hK, hB⟩
        have HT := Aside.mk (told_of hK)
        have HB3 := Aside.mk hB
        have HA2 := Aside.mk HM.out.2.2
        clear hK hB HK
        go_upto_region 14 with (refine wpList_store_mid rfl 54 (.tmp 9) (.tmp 49) (by rfl) w3.heap.size 0 cs.toArray (by rfl) (by rfl) (there_blk (blk_new w3 _) rfl (by rw [List.size_toArray]; exact HT.out.1)) (j54 (by rw [List.size_toArray]; exact HT.out.1)) (all_oneCell_toArray HT.out.2.1) ?_)
        generalize hV : (w3.alloc _).setCells _ _ _ = V
        obtain ⟨hv3, hv4, hvb, hvl⟩ := box_told hV HT.out
        have hwV := HB3.out.trans (hvb.mono HB3.out.size)
        have HOV := Aside.mk (HO.out.later (Chg.of_below hwV NoF))
        have HV := Aside.mk (And.intro hv3 (And.intro hv4 (And.intro hvl HB3.out.size)))
        have m0 : V.cell? (ad.add (i * 44)) = some (.int .i64 x.Kind) := (hwV.cell (Nat.lt_of_lt_of_le HM.out.2.1 HO.out.below.size)).trans HM.out.1
        clear hV hv3 hv4 hvb hvl hwV HT HB3 m1
        go_wp2_with fail
        refine (abs_any _ HA2.out _).mono ?_
        rintro e w' ⟨⟨k2, rfl⟩, hw⟩
        obtain rfl := hw.symm
        have hk2 : ((k2 : Int).tmod 5) = ((k2 % 5 : Nat) : Int) := (Int.ofNat_tmod k2 5).symm
        have hrl : k2 % 5 < 5 := Nat.mod_lt _ (by decide)
        generalize k2 % 5 = r at *
        by_cases hr1 : r = 0 ∨ r = 1
        · have hlast := HP.out.l1
          have hnf := HP.out.nf
          have hml := HP.out.len
          have HSd := Aside.mk (send_any HOV.out.net (bare 0 i) (bareC 0 i).toList (kMsg_bare _ _ 0 i rfl (u64_wf (by omega) (by omega))) (by omega) (by omega) (by omega))
          have huw : IntKind.u64.wrap (i : Int) = i := by rw [IntKind.wrap_u64]; omega
          have hiw : IntKind.i64.wrap ((ln : Int) + 1) = (ln : Int) + 1 := by rw [IntKind.wrap_i64]; omega
          have huw2 : IntKind.u64.wrap ((ln : Int) + 1) = (ln : Int) + 1 := by rw [IntKind.wrap_u64]; omega
          rcases hr1 with rfl | rfl
          all_goals
            go_wp2_with fail
            refine HSd.out.mono ?_
            rintro e w4 ⟨rfl, hN, hC⟩
            have hO4 := HOV.out.turn hN hC (fun k h => h)
            have hlen := hO4.sent.len und75 3
            obtain ⟨hf0, hP5⟩ := HP.out.send (withId (bare 0 i) (ln + 1)) rfl
            obtain ⟨w5, hput, hO5⟩ := hO4.sentNew hf0 (u64_wf (by omega) (by omega)) (by omega) (.int .i64 1)
            have HO5 := Aside.mk hO5
            have HPN := Aside.mk hP5
            clear hO5 hO4 hN hC HSd hf0 hP5
            go_wp2
            go_round
            case rel => exact ⟨i + 1, hlt1, hlt2, rfl, ⟨_, _, _, _, _, _, _, _, _, by rw [show ((ln : Int) + 1).toNat = ln + 1 by omega]; exact HO5.out, HPN.out⟩⟩
            case measure => simp only [intOf]; omega
        · by_cases hr2 : r = 2
          · subst hr2
            have HLo := Aside.mk (lose_yes HOV.out.net kk hkl)
            have HI := Aside.mk (HP.out.ids _ (List.getElem_mem hkl))
            have hlast := HP.out.l1
            have hnf := HP.out.nf
            have hng := HP.out.ng
            obtain ⟨v, hv1, hv2, hv3, hv4⟩ := HP.out.at_ hkl
            have HPN := Aside.mk (HP.out.lose hkl hv2)
            have HF := Aside.mk hv1
            generalize ms[kk].Id = id at *
            clear hv1 hv2
            go_wp2_with fail
            refine HLo.out.mono ?_
            rintro e w4 ⟨rfl, hN, hC⟩
            have hO4 := HOV.out.turn hN hC (fun k h => .inl h)
            have b3 : w4.cell? ⟨w3.heap.size, 3, none⟩ = some (.int .u64 id) := by
              rw [World.cell?_of_block (w := V) (hC.block _ HV.out.2.2.1 (fun h => ?_))]
              · exact HV.out.1
              · have h1 := HV.out.2.2.2
                have h2 := HO.out.net.lt
                rcases h with h | h
                · have : w3.heap.size < wr.heap.size := h.2
                  omega
                · have : w3.heap.size = nb := h
                  omega
            obtain ⟨hlook, w5, hput, _, hO5⟩ := hO4.sentUp HF.out (u64_wf (by have := HI.out; omega) (by have := HI.out; omega)) (by omega) (.int .i64 (v - 1))
            have HO5 := Aside.mk hO5
            have hvw : IntKind.i64.wrap (v - 1) = v - 1 := by rw [IntKind.wrap_i64]; omega
            clear hO5 hO4 hN hC HLo
            go_wp2
            go_round
            case rel => exact ⟨i + 1, hlt1, hlt2, rfl, ⟨_, _, _, _, _, _, _, _, _, by rw [Int.toNat_natCast]; exact HO5.out, HPN.out⟩⟩
            case measure => simp only [intOf]; omega
          · by_cases hr3 : r = 3
            · subst hr3
              have HI := Aside.mk (HP.out.ids _ (List.getElem_mem hkl))
              have hlast := HP.out.l1
              have hnf := HP.out.nf
              have hng := HP.out.ng
              have hml := HP.out.len
              have HTw := Aside.mk (twice_yes HOV.out.net kk hkl (by omega))
              obtain ⟨v, hv1, hv2, hv3, hv4⟩ := HP.out.at_ hkl
              have HPN := Aside.mk (HP.out.twice hkl hv2)
              have HF := Aside.mk hv1
              generalize hid : ms[kk].Id = id at *
              clear hv1 hv2
              go_wp2_with fail
              refine HTw.out.mono ?_
              rintro e w4 ⟨rfl, hN, hC⟩
              have hO4 := HOV.out.turn hN hC (fun k h => h)
              have b3 : w4.cell? ⟨w3.heap.size, 3, none⟩ = some (.int .u64 id) := by
                rw [World.cell?_of_block (w := V) (hC.block _ HV.out.2.2.1 (fun h => ?_))]
                · exact HV.out.1
                · have h1 := HV.out.2.2.2
                  have h2 := HO.out.net.lt
                  rcases h with h | h
                  · have : w3.heap.size < wr.heap.size := h.2
                    omega
                  · have : w3.heap.size = nb := h
                    omega
              obtain ⟨hlook, w5, hput, _, hO5⟩ := hO4.sentUp HF.out (u64_wf (by have := HI.out; omega) (by have := HI.out; omega)) (by omega) (.int .i64 (v + 1))
              have HO5 := Aside.mk hO5
              have hvw : IntKind.i64.wrap (v + 1) = v + 1 := by rw [IntKind.wrap_i64]; omega
              clear hO5 hO4 hN hC HTw hid
              go_wp2
              go_round
              case rel => exact ⟨i + 1, hlt1, hlt2, rfl, ⟨_, _, _, _, _, _, _, _, _, by rw [Int.toNat_natCast]; exact HO5.out, HPN.out⟩⟩
              case measure => simp only [intOf]; omega
            · have hr4 : r = 4 := by omega
              subst hr4
              have HI := Aside.mk (HP.out.ids _ (List.getElem_mem hkl))
              have hlast := HP.out.l1
              have hnf := HP.out.nf
              have hng := HP.out.ng
              have hml := HP.out.len
              have HDv := Aside.mk (deliver_yes HOV.out.net kk hkl)
              obtain ⟨hv1, hv2⟩ := HP.out.come hkl
              have HPN := Aside.mk hv2
              have HF := Aside.mk hv1
              have hlow := HP.out.low ms[kk].Id
              generalize ms[kk] = y at *
              clear hv1 hv2
              go_wp2_with fail
              refine HDv.out.mono ?_
              rintro e w4 ⟨cs2, rfl, hK2, hN, hC⟩
              have HO4 := Aside.mk (HOV.out.turn hN hC (fun k h => .inl h))
              have HT2 := Aside.mk (told_of hK2)
              have HB4 : Aside (w4.cell? ⟨w3.heap.size, 3, none⟩ = some (.int .u64 y.Id) ∧ w4.cell? ⟨w3.heap.size, 4, none⟩ = some (.int .u64 y.Ask) ∧ w3.heap.size < w4.heap.size) := Aside.mk (by
                have hbl := hC.block w3.heap.size HV.out.2.2.1 (fun h => by
                  have h1 := HV.out.2.2.2
                  have h2 := HO.out.net.lt
                  rcases h with h | h
                  · have : w3.heap.size < wr.heap.size := h.2
                    omega
                  · have : w3.heap.size = nb := h
                    omega)
                exact ⟨(World.cell?_of_block (w := V) (a := ⟨w3.heap.size, 3, none⟩) hbl).trans HV.out.1, (World.cell?_of_block (w := V) (a := ⟨w3.heap.size, 4, none⟩) hbl).trans HV.out.2.1, Nat.lt_of_lt_of_le HV.out.2.2.1 hC.size⟩)
              clear hN hC hK2 HDv
              go_upto_region 16 with (refine wpList_store_mid rfl 54 (.tmp 12) (.tmp 62) (by rfl) w4.heap.size 0 cs2.toArray (by rfl) (by rfl) (there_blk (blk_new w4 _) rfl (by rw [List.size_toArray]; exact HT2.out.1)) (j54 (by rw [List.size_toArray]; exact HT2.out.1)) (all_oneCell_toArray HT2.out.2.1) ?_)
              generalize hV2 : (w4.alloc _).setCells _ _ _ = V2
              obtain ⟨c3, c4, hvb, hvl⟩ := box_told hV2 HT2.out
              have d3 : V2.cell? ⟨w3.heap.size, 3, none⟩ = some (.int .u64 y.Id) := (hvb.cell (p := ⟨w3.heap.size, 3, none⟩) HB4.out.2.2).trans HB4.out.1
              have d4 : V2.cell? ⟨w3.heap.size, 4, none⟩ = some (.int .u64 y.Ask) := (hvb.cell (p := ⟨w3.heap.size, 4, none⟩) HB4.out.2.2).trans HB4.out.2.1
              obtain ⟨hlook, w5, szg', hput, hO5⟩ := (HO4.out.later (Chg.of_below hvb NoF)).cameUp HF.out (u64_wf (by have := HI.out; omega) (by have := HI.out; omega)) (by omega) (.int .i64 (cc y.Id + 1))
              have HO5 := Aside.mk hO5
              have hvw : IntKind.i64.wrap (cc y.Id + 1) = cc y.Id + 1 := by rw [IntKind.wrap_i64]; omega
              clear hO5 hvb hvl hV2 HT2 HB4 HO4
              go_wp2
              go_round
              case rel => exact ⟨i + 1, hlt1, hlt2, rfl, ⟨_, _, _, _, _, _, _, _, _, by rw [Int.toNat_natCast]; exact HO5.out, HPN.out⟩⟩
              case measure => simp only [intOf]; omega
      · have hl0 : ms.length = 0 := by omega
        obtain ⟨zs, hz, hT0⟩ := told_zero w
        have HZ := Aside.mk hz
        have HT := Aside.mk hT0
        have HK := Aside.mk (peek_no HO.out.net 0 (.inr (by omega)))
        clear hz hT0 hms
        go_wp2_with (go_at_call 22; refine HW.out.mono ?_; rintro e w' ⟨rfl, hw⟩; obtain rfl := hw.symm)
        refine HK.out.mono ?_
        rintro e w3 ⟨rfl, hB⟩
        rw [HZ.out]
        have HB3 := Aside.mk hB
        have HA2 := Aside.mk HM.out.2.2
        clear hB HK
        go_upto_region 14 with (refine wpList_store_mid rfl 54 (.tmp 9) (.tmp 49) (by rfl) w3.heap.size 0 zs.toArray (by rfl) (by rfl) (there_blk (blk_new w3 _) rfl (by rw [List.size_toArray]; exact HT.out.1)) (j54 (by rw [List.size_toArray]; exact HT.out.1)) (all_oneCell_toArray HT.out.2.1) ?_)
        generalize hV : (w3.alloc _).setCells _ _ _ = V
        obtain ⟨hv3, hv4, hvb, hvl⟩ := box_told hV HT.out
        have hwV := HB3.out.trans (hvb.mono HB3.out.size)
        have HOV := Aside.mk (HO.out.later (Chg.of_below hwV NoF))
        have HV := Aside.mk (And.intro hv3 (And.intro hv4 (And.intro hvl HB3.out.size)))
        have m0 : V.cell? (ad.add (i * 44)) = some (.int .i64 x.Kind) := (hwV.cell (Nat.lt_of_lt_of_le HM.out.2.1 HO.out.below.size)).trans HM.out.1
        clear hV hv3 hv4 hvb hvl hwV HB3 m1
        go_wp2_with fail
        refine (abs_any _ HA2.out _).mono ?_
        rintro e w' ⟨⟨k2, rfl⟩, hw⟩
        obtain rfl := hw.symm
        have hk2 : ((k2 : Int).tmod 5) = ((k2 % 5 : Nat) : Int) := (Int.ofNat_tmod k2 5).symm
        have hrl : k2 % 5 < 5 := Nat.mod_lt _ (by decide)
        generalize k2 % 5 = r at *
        by_cases hr1 : r = 0 ∨ r = 1
        · have hlast := HP.out.l1
          have hnf := HP.out.nf
          have hml := HP.out.len
          have HSd := Aside.mk (send_any HOV.out.net (bare 0 i) (bareC 0 i).toList (kMsg_bare _ _ 0 i rfl (u64_wf (by omega) (by omega))) (by omega) (by omega) (by omega))
          have huw : IntKind.u64.wrap (i : Int) = i := by rw [IntKind.wrap_u64]; omega
          have hiw : IntKind.i64.wrap ((ln : Int) + 1) = (ln : Int) + 1 := by rw [IntKind.wrap_i64]; omega
          have huw2 : IntKind.u64.wrap ((ln : Int) + 1) = (ln : Int) + 1 := by rw [IntKind.wrap_u64]; omega
          rcases hr1 with rfl | rfl
          all_goals
            go_wp2_with fail
            refine HSd.out.mono ?_
            rintro e w4 ⟨rfl, hN, hC⟩
            have hO4 := HOV.out.turn hN hC (fun k h => h)
            have hlen := hO4.sent.len und75 3
            obtain ⟨hf0, hP5⟩ := HP.out.send (withId (bare 0 i) (ln + 1)) rfl
            obtain ⟨w5, hput, hO5⟩ := hO4.sentNew hf0 (u64_wf (by omega) (by omega)) (by omega) (.int .i64 1)
            have HO5 := Aside.mk hO5
            have HPN := Aside.mk hP5
            clear hO5 hO4 hN hC HSd hf0 hP5
            go_wp2
            go_round
            case rel => exact ⟨i + 1, hlt1, hlt2, rfl, ⟨_, _, _, _, _, _, _, _, _, by rw [show ((ln : Int) + 1).toNat = ln + 1 by omega]; exact HO5.out, HPN.out⟩⟩
            case measure => simp only [intOf]; omega
        · by_cases hr2 : r = 2
          · subst hr2
            have HLo := Aside.mk (lose_no HOV.out.net 0 (.inr (by omega)))
            have HO5 := HOV
            go_wp2_with (go_at_call 15; refine HLo.out.mono ?_; rintro e w' ⟨rfl, hw⟩; obtain rfl := hw.symm)
            go_wp2
            go_round
            case rel => exact ⟨i + 1, hlt1, hlt2, rfl, ⟨_, _, _, _, _, _, _, _, _, by rw [Int.toNat_natCast]; exact HO5.out, HP.out.mono⟩⟩
            case measure => simp only [intOf]; omega
          · by_cases hr3 : r = 3
            · subst hr3
              have HTw := Aside.mk (twice_no HOV.out.net 0 (.inr (by omega)))
              go_wp2_with fail
              refine HTw.out.mono ?_
              rintro e w4 ⟨rfl, hB4⟩
              have HO5 := Aside.mk (HOV.out.later (Chg.of_below hB4 NoF))
              clear hB4 HTw
              go_wp2
              go_round
              case rel => exact ⟨i + 1, hlt1, hlt2, rfl, ⟨_, _, _, _, _, _, _, _, _, by rw [Int.toNat_natCast]; exact HO5.out, HP.out.mono⟩⟩
              case measure => simp only [intOf]; omega
            · have hr4 : r = 4 := by omega
              subst hr4
              have HDv := Aside.mk (deliver_no HOV.out.net 0 (.inr (by omega)))
              go_wp2_with fail
              refine HDv.out.mono ?_
              rintro e w4 ⟨rfl, hB4⟩
              rw [HZ.out]
              have HB4 := Aside.mk hB4
              have HO4 := Aside.mk (HOV.out.later (Chg.of_below hB4 NoF))
              clear hB4 HDv
              go_upto_region 16 with (refine wpList_store_mid rfl 54 (.tmp 12) (.tmp 62) (by rfl) w4.heap.size 0 zs.toArray (by rfl) (by rfl) (there_blk (blk_new w4 _) rfl (by rw [List.size_toArray]; exact HT.out.1)) (j54 (by rw [List.size_toArray]; exact HT.out.1)) (all_oneCell_toArray HT.out.2.1) ?_)
              generalize hV2 : (w4.alloc _).setCells _ _ _ = V2
              obtain ⟨c3, c4, hvb, hvl⟩ := box_told hV2 HT.out
              have hVV := HB4.out.trans (hvb.mono HB4.out.size)
              have d3 : V2.cell? ⟨w3.heap.size, 3, none⟩ = some (.int .u64 0) := (hVV.cell (p := ⟨w3.heap.size, 3, none⟩) HV.out.2.2.1).trans HV.out.1
              have d4 : V2.cell? ⟨w3.heap.size, 4, none⟩ = some (.int .u64 0) := (hVV.cell (p := ⟨w3.heap.size, 4, none⟩) HV.out.2.2.1).trans HV.out.2.1
              have HO5 := Aside.mk (HO4.out.later (Chg.of_below hvb NoF))
              clear hvb hvl hV2 hVV HB4 HO4
              go_wp2
              go_round
              case rel => exact ⟨i + 1, hlt1, hlt2, rfl, ⟨_, _, _, _, _, _, _, _, _, by rw [Int.toNat_natCast]; exact HO5.out, HP.out.mono⟩⟩
              case measure => simp only [intOf]; omega
    · have hend : (i < xs.length ∧ ¬ i < 100) ∨ ¬ i < xs.length := by omega
      rcases hend with ⟨hlt1, hlt2⟩ | hlt1
      · obtain rfl : i = 100 := by omega
        clear hlt hi hi2 hlt2
        go_wp2_with fail
        go_loopw [14] (fun v14 wq => ∃ j : Nat, j + netLen wq nb ≤ 100 ∧ Aside (OLoop w nb sm cm (100 + j) wq)) (fun _ wq => netLen wq nb)
        case atStart =>
          refine ⟨0, ?_, ⟨HR.out⟩⟩
          obtain ⟨F, ms, last, cc, f, g, nf, ng, szg, hO, hP⟩ := HR.out
          rw [netLen_eq hO.net]
          have := hP.len
          omega
        case round =>
          obtain ⟨j, hj, HQ⟩ := hrel
          obtain ⟨F, ms, last, cc, f, g, nf, ng, szg, hO, hP⟩ := HQ.out
          obtain ⟨ln, rfl⟩ := Int.eq_ofNat_of_zero_le hP.l0
          rw [Int.toNat_natCast] at hO
          have HO := Aside.mk hO
          have HP := Aside.mk hP
          have HW := Aside.mk (waiting_any hO.net)
          have HNL := Aside.mk (netLen_eq hO.net)
          rw [netLen_eq hO.net] at hj
          have hlast := hP.l1
          have hng := hP.ng
          clear hO hP HQ
          by_cases hms : 0 < ms.length
          · have hms' : (0 : Int) < (ms.length : Int) := by omega
            have HDv := Aside.mk (deliver_yes HO.out.net 0 hms)
            have HI := Aside.mk (HP.out.ids _ (List.getElem_mem hms))
            obtain ⟨hv1, hv2⟩ := HP.out.come hms
            have HPN := Aside.mk hv2
            have HF := Aside.mk hv1
            have hlow := HP.out.low ms[0].Id
            have hel : (ms.eraseIdx 0).length = ms.length - 1 := by rw [List.length_eraseIdx, if_pos hms]
            have HEL := Aside.mk hel
            clear hel
            generalize ms[0] = y at *
            clear hv1 hv2
            go_wp2_with (go_at_call 22; refine HW.out.mono ?_; rintro e w' ⟨rfl, hw⟩; obtain rfl := hw.symm)
            refine HDv.out.mono ?_
            rintro e w4 ⟨cs2, rfl, hK2, hN, hC⟩
            have HO4 := Aside.mk (HO.out.turn hN hC (fun k h => .inl h))
            have HT2 := Aside.mk (told_of hK2)
            clear hN hC hK2 HDv
            go_upto_region 38 with (refine wpList_store_mid rfl 54 (.tmp 14) (.tmp 135) (by rfl) w4.heap.size 0 cs2.toArray (by rfl) (by rfl) (there_blk (blk_new w4 _) rfl (by rw [List.size_toArray]; exact HT2.out.1)) (j54 (by rw [List.size_toArray]; exact HT2.out.1)) (all_oneCell_toArray HT2.out.2.1) ?_)
            generalize hV2 : (w4.alloc _).setCells _ _ _ = V2
            obtain ⟨c3, c4, hvb, hvl⟩ := box_told hV2 HT2.out
            obtain ⟨hlook, w5, szg', hput, hO5⟩ := (HO4.out.later (Chg.of_below hvb NoF)).cameUp HF.out (u64_wf (by have := HI.out; omega) (by have := HI.out; omega)) (by omega) (.int .i64 (cc y.Id + 1))
            have HO5 := Aside.mk hO5
            have hvw : IntKind.i64.wrap (cc y.Id + 1) = cc y.Id + 1 := by rw [IntKind.wrap_i64]; omega
            clear hO5 hvb hvl hV2 HT2 HO4
            go_wp2
            go_round
            case rel => exact ⟨j + 1, by rw [netLen_eq HO5.out.net, HEL.out]; omega, ⟨_, _, _, _, _, _, _, _, _, by rw [Int.toNat_natCast]; exact HO5.out, HPN.out⟩⟩
            case measure => rw [netLen_eq HO5.out.net, HNL.out, HEL.out]; omega
          · have hl0 : ms.length = 0 := by omega
            have HB := Aside.mk HO.out.below
            have hlen := HO.out.sent.len und75 3
            obtain rfl : ms = [] := List.eq_nil_of_length_eq_zero hl0
            go_wp2_with (go_at_call 22; refine HW.out.mono ?_; rintro e w' ⟨rfl, hw⟩; obtain rfl := hw.symm)
            go_loop [16] (fun v16 => ∃ k : Nat, 1 ≤ k ∧ k ≤ ln + 1 ∧ v16 = .int .i64 k) (fun v16 => ln + 1 - (intOf v16).toNat)
            case atStart => exact ⟨1, Nat.le_refl _, by omega, rfl⟩
            case round =>
              obtain ⟨k, hk1, hk2, rfl⟩ := hrel
              by_cases hkl : k ≤ ln
              · have hwf : (Lit.int .u64 (k : Int)).wf = true := u64_wf (by omega) (by omega)
                have l1 := HO.out.came.look und28 und75 (zero3 _) hwf
                have l2 := HO.out.sent.look und28 und75 (zero3 _) hwf
                rw [HP.out.came] at l1
                rw [HP.out.yes k (by omega) (by omega), cId_nil, Int.add_zero] at l2
                simp only [Option.getD_some] at l2
                have huw : IntKind.u64.wrap (k : Int) = k := by rw [IntKind.wrap_u64]; omega
                clear hwf
                go_wp2
                go_round
                case rel => exact ⟨k + 1, by omega, by omega, rfl⟩
                case measure => simp only [intOf]; omega
              · obtain rfl : k = ln + 1 := by omega
                go_wp2
                go_ret
                exact ⟨rfl, HB.out⟩
      · obtain rfl : i = xs.length := by omega
        have hx100 := hi2
        clear hlt hi hi2 hlt1
        go_wp2_with fail
        go_loopw [14] (fun v14 wq => ∃ j : Nat, j + netLen wq nb ≤ 100 ∧ Aside (OLoop w nb sm cm (xs.length + j) wq)) (fun _ wq => netLen wq nb)
        case atStart =>
          refine ⟨0, ?_, ⟨HR.out⟩⟩
          obtain ⟨F, ms, last, cc, f, g, nf, ng, szg, hO, hP⟩ := HR.out
          rw [netLen_eq hO.net]
          have := hP.len
          omega
        case round =>
          obtain ⟨j, hj, HQ⟩ := hrel
          obtain ⟨F, ms, last, cc, f, g, nf, ng, szg, hO, hP⟩ := HQ.out
          obtain ⟨ln, rfl⟩ := Int.eq_ofNat_of_zero_le hP.l0
          rw [Int.toNat_natCast] at hO
          have HO := Aside.mk hO
          have HP := Aside.mk hP
          have HW := Aside.mk (waiting_any hO.net)
          have HNL := Aside.mk (netLen_eq hO.net)
          rw [netLen_eq hO.net] at hj
          have hlast := hP.l1
          have hng := hP.ng
          clear hO hP HQ
          by_cases hms : 0 < ms.length
          · have hms' : (0 : Int) < (ms.length : Int) := by omega
            have HDv := Aside.mk (deliver_yes HO.out.net 0 hms)
            have HI := Aside.mk (HP.out.ids _ (List.getElem_mem hms))
            obtain ⟨hv1, hv2⟩ := HP.out.come hms
            have HPN := Aside.mk hv2
            have HF := Aside.mk hv1
            have hlow := HP.out.low ms[0].Id
            have hel : (ms.eraseIdx 0).length = ms.length - 1 := by rw [List.length_eraseIdx, if_pos hms]
            have HEL := Aside.mk hel
            clear hel
            generalize ms[0] = y at *
            clear hv1 hv2
            go_wp2_with (go_at_call 22; refine HW.out.mono ?_; rintro e w' ⟨rfl, hw⟩; obtain rfl := hw.symm)
            refine HDv.out.mono ?_
            rintro e w4 ⟨cs2, rfl, hK2, hN, hC⟩
            have HO4 := Aside.mk (HO.out.turn hN hC (fun k h => .inl h))
            have HT2 := Aside.mk (told_of hK2)
            clear hN hC hK2 HDv
            go_upto_region 38 with (refine wpList_store_mid rfl 54 (.tmp 14) (.tmp 135) (by rfl) w4.heap.size 0 cs2.toArray (by rfl) (by rfl) (there_blk (blk_new w4 _) rfl (by rw [List.size_toArray]; exact HT2.out.1)) (j54 (by rw [List.size_toArray]; exact HT2.out.1)) (all_oneCell_toArray HT2.out.2.1) ?_)
            generalize hV2 : (w4.alloc _).setCells _ _ _ = V2
            obtain ⟨c3, c4, hvb, hvl⟩ := box_told hV2 HT2.out
            obtain ⟨hlook, w5, szg', hput, hO5⟩ := (HO4.out.later (Chg.of_below hvb NoF)).cameUp HF.out (u64_wf (by have := HI.out; omega) (by have := HI.out; omega)) (by omega) (.int .i64 (cc y.Id + 1))
            have HO5 := Aside.mk hO5
            have hvw : IntKind.i64.wrap (cc y.Id + 1) = cc y.Id + 1 := by rw [IntKind.wrap_i64]; omega
            clear hO5 hvb hvl hV2 HT2 HO4
            go_wp2
            go_round
            case rel => exact ⟨j + 1, by rw [netLen_eq HO5.out.net, HEL.out]; omega, ⟨_, _, _, _, _, _, _, _, _, by rw [Int.toNat_natCast]; exact HO5.out, HPN.out⟩⟩
            case measure => rw [netLen_eq HO5.out.net, HNL.out, HEL.out]; omega
          · have hl0 : ms.length = 0 := by omega
            have HB := Aside.mk HO.out.below
            have hlen := HO.out.sent.len und75 3
            obtain rfl : ms = [] := List.eq_nil_of_length_eq_zero hl0
            go_wp2_with (go_at_call 22; refine HW.out.mono ?_; rintro e w' ⟨rfl, hw⟩; obtain rfl := hw.symm)
            go_loop [16] (fun v16 => ∃ k : Nat, 1 ≤ k ∧ k ≤ ln + 1 ∧ v16 = .int .i64 k) (fun v16 => ln + 1 - (intOf v16).toNat)
            case atStart => exact ⟨1, Nat.le_refl _, by omega, rfl⟩
            case round =>
              obtain ⟨k, hk1, hk2, rfl⟩ := hrel
              by_cases hkl : k ≤ ln
              · have hwf : (Lit.int .u64 (k : Int)).wf = true := u64_wf (by omega) (by omega)
                have l1 := HO.out.came.look und28 und75 (zero3 _) hwf
                have l2 := HO.out.sent.look und28 und75 (zero3 _) hwf
                rw [HP.out.came] at l1
                rw [HP.out.yes k (by omega) (by omega), cId_nil, Int.add_zero] at l2
                simp only [Option.getD_some] at l2
                have huw : IntKind.u64.wrap (k : Int) = k := by rw [IntKind.wrap_u64]; omega
                clear hwf
                go_wp2
                go_round
                case rel => exact ⟨k + 1, by omega, by omega, rfl⟩
                case measure => simp only [intOf]; omega
              · obtain rfl : k = ln + 1 := by omega
                go_wp2
                go_ret
                exact ⟨rfl, HB.out⟩
end Go.Proofs.Ytjpeaeklhcnpnaa.K
