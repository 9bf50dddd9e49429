/- The law NetTimers returns true at every input. No condition. -/
import Derived.Test.YtjpeaeklhcnpnaaT15
namespace Go.Proofs.Ytjpeaeklhcnpnaa.K
open Go.RowKit
set_option linter.unusedVariables false
set_option linter.unusedSimpArgs false
theorem flt_set_len {L : List (Int × Int)} {i : Nat} {id a : Int} (h : L.length ≤ i) : (flt L id ++ [(id, a)]).length ≤ i + 1 := by
  rw [List.length_append, List.length_singleton]
  have := flt_len L id
  omega
theorem flt_stop_len {L : List (Int × Int)} {i : Nat} {id : Int} (h : L.length ≤ i) : (flt L id).length ≤ i + 1 := by
  have := flt_len L id
  omega
theorem lft_len {L : List (Int × Int)} {i : Nat} {outs : List Int} (h : L.length ≤ i) : (lft L outs).length ≤ i + 1 := by
  have : (lft L outs).length ≤ L.length := List.length_filter_le _ _
  omega
set_option maxHeartbeats 8000000 in
set_option maxRecDepth 100000 in
theorem netTimers_any (w : World) (xs : List Op) (A : Option Addr) (n c : Nat) (hx : (Kd.slice 480 kOp).K w Any xs [.slice A n c]) :
    Calls Try.prog 7 #[.slice A n c] w fun e w' => e = .returned (.bool true) ∧ Below w.heap.size w w' := by
  obtain ⟨A', c', he, hc, hb, hC⟩ := hx
  simp only [List.cons.injEq, and_true] at he
  injection he with e1 e2 e3
  subst e1 e2 e3
  have HC := Aside.mk hC
  clear hC
  go_enter Try.func7, Try.ntmps7
  go_wp2_with fail
  refine (awake_any w).mono ?_
  rintro e w1 ⟨rfl, hB1⟩
  have HB1 := Aside.mk hB1
  clear hB1
  go_wp2_with fail
  refine (newTimers_any w1).mono ?_
  rintro e w2 ⟨rfl, hT, hB2⟩
  have HT2 := Aside.mk hT
  have HB2 := Aside.mk hB2
  clear hT hB2
  go_wp2_with fail
  go_loopw [6] (fun v6 wr => ∃ i : Nat, i ≤ xs.length ∧ i ≤ 120 ∧ v6 = .int .i64 i ∧ Aside (TLoop w (w1.heap.size + 1) w1.heap.size w2.heap.size i wr)) (fun v6 _ => xs.length - (intOf v6).toNat)
  case atStart => exact ⟨0, Nat.zero_le _, Nat.zero_le _, rfl, ⟨t_begin HB1.out HT2.out HB2.out⟩⟩
  case round =>
    obtain ⟨i, hi, hi2, rfl, HR⟩ := hrel
    obtain ⟨wo, rfl⟩ : ∃ wo : World, wo = wr := ⟨_, rfl⟩
    generalize w2.heap.size = rb at *
    generalize hmb : w1.heap.size = mb at *
    generalize htb : mb + 1 = tb at *
    clear htb hmb HT2 HB2 HB1
    by_cases hlt : i < xs.length ∧ i < 120
    · obtain ⟨hlt1, hlt2⟩ := hlt
      obtain ⟨F, g, L, nn, sz, hT⟩ := HR.out
      have HT := Aside.mk hT.known
      obtain ⟨b0, o0, cs, rfl, hO⟩ := op_row HC.out hT.below hlt1
      obtain ⟨x, hx⟩ : ∃ x, xs[i] = x := ⟨_, rfl⟩
      rw [hx] at hO
      have HO := Aside.mk hO
      clear hT hO hx HR
      go_upto_region 10 with (first
        | (refine wpList_load_mid rfl 56 (.tmp 29) (by rfl) b0 (o0 + i * 44) (by rfl) cs _ HO.out.at_ Try.underlying56 rfl (j56 HO.out.len) ?_)
        | (refine wpList_store_mid rfl 56 (.tmp 7) (.tmp 30) (by rfl) wo.heap.size 0 cs.toArray (by rfl) (by rfl) (there_blk (blk_new wo _) rfl (by rw [List.size_toArray]; exact HO.out.len)) (j56 (by rw [List.size_toArray]; exact HO.out.len)) (all_oneCell_toArray HO.out.one) ?_))
      generalize hV : World.setCells _ _ _ _ = V
      obtain ⟨v0, v1, v2, hvb, hvl⟩ := op_box hV rfl HO.out
      have HTV := Aside.mk (HT.out.later (Chg.of_below hvb NoF))
      have hob1 : mb < wo.heap.size := HT.out.tim.map.lt
      have hob2 : rb < wo.heap.size := HT.out.ref.lt
      have HM := Aside.mk (And.intro v1 (And.intro v2 hvl))
      generalize wo.heap.size = ob at *
      have hl1 := HTV.out.hl
      have hl2 := HTV.out.hs
      have hl3 := HTV.out.hn
      have HW := Aside.mk (And.intro HO.out.wk (And.intro HO.out.wi HO.out.wn))
      clear hV hvb hvl HO HT
      go_wp2_with fail
      refine (abs_any _ HW.out.1 _).mono ?_
      rintro e w' ⟨⟨k2, rfl⟩, hw⟩
      obtain rfl := hw.symm
      clear hw
      have hk2 : ((k2 : Int).tmod 4) = ((k2 % 4 : Nat) : Int) := (Int.ofNat_tmod k2 4).symm
      have hrl : k2 % 4 < 4 := Nat.mod_lt _ (by decide)
      generalize k2 % 4 = r at *
      by_cases hr1 : r = 0 ∨ r = 1
      · have HS := Aside.mk (set_any (at_ := x.I) HTV.out.tim HW.out.2.2 (by omega))
        rcases hr1 with rfl | rfl
        all_goals
          go_wp2_with (first
            | (go_at_call 31; refine HRS.out.mono ?_; rintro e w5 ⟨rfl, h5, hc5⟩; have HEND := Aside.mk (HTV.out.step H4.out.2.1 H4.out.2.2 h5 hc5 (fun k hk => .inr hk) (rep_set HTV.out.rep HW.out.2.2 HW.out.2.1) (flt_set_len hl1) (by have := H4.out.1; omega) (by omega)); clear h5 hc5)
            | (go_at_call 27; refine HS.out.mono ?_; rintro e w4 ⟨rfl, sz', hsz', ht4, hc4⟩; have m1 : w4.cell? ⟨ob, 1, none⟩ = some (.int .i64 x.I) := (World.cell?_of_block (a := ⟨ob, 1, none⟩) (hc4.block ob HM.out.2.2 (by omega))).trans HM.out.1; have m2 : w4.cell? ⟨ob, 2, none⟩ = some (.int .u64 x.N) := (World.cell?_of_block (a := ⟨ob, 2, none⟩) (hc4.block ob HM.out.2.2 (by omega))).trans HM.out.2.1; have HRS := Aside.mk (rset_any (at_ := x.I) (by omega) (HTV.out.mid hc4) HW.out.2.2 HW.out.2.1); have H4 := Aside.mk (And.intro hsz' (And.intro ht4 hc4)); clear hsz' ht4 hc4))
          go_round
          case rel => exact ⟨i + 1, hlt1, hlt2, rfl, HEND⟩
          case measure => simp only [intOf]; omega
      · by_cases hr2 : r = 2
        · subst hr2
          have HTD := Aside.mk (HTV.out.later ((Chg.refl V NoF).drew))
          have HS := Aside.mk (stop_any HTD.out.tim HW.out.2.2)
          have hcl : ∀ W', Aside (Chg V W' (fun k => k = mb ∨ k = rb)) → W'.cell? ⟨ob, 2, none⟩ = some (.int .u64 x.N) := fun W' I => (World.cell?_of_block (a := ⟨ob, 2, none⟩) (I.out.block ob HM.out.2.2 (by omega))).trans HM.out.2.1
          have HI5 : Aside (Chg V V.drew (fun k => k = mb ∨ k = rb)) := ⟨(Chg.refl V _).drew⟩
          have HRF := fun (w4 : World) (hc4 : Chg V.drew w4 (fun k => k = mb)) => Aside.mk (rstop_any (id := x.N) (by omega) (HTD.out.mid hc4) HW.out.2.2)
          obtain ⟨bb, hbb⟩ : ∃ bb, (g x.N).isSome = bb := ⟨_, rfl⟩
          simp only [rep_has HTV.out.rep HW.out.2.2] at HRF
          rw [hbb] at HS
          simp only [hbb] at HRF
          clear hbb v0 v1
          go_upto_region 25 with fail
          go_region_held3 (fun W : World => W.cell? ⟨ob, 2, none⟩ = some (.int .u64 x.N)) (exact hcl _ (by assumption))
            (first
              | (go_at_call 32; refine HRS.out.mono ?_; rintro e w5 ⟨rfl, h5, hc5⟩; have HEND := Aside.mk (HTD.out.step H4.out.2.1 H4.out.2.2 h5 hc5 (fun k hk => .inr hk) (rep_drop HTV.out.rep x.N) (flt_stop_len hl1) (by have := H4.out.1; omega) (by omega)); have HI7 : Aside (Chg V w5 (fun k => k = mb ∨ k = rb)) := ⟨HI6.out.then_ hc5 (fun k _ e => .inr e)⟩; clear h5 hc5 HI6)
              | (go_at_call 28; refine HS.out.mono ?_; rintro e w4 ⟨rfl, sz', hsz', ht4, hc4⟩; have HRS := HRF w4 hc4; have HI6 : Aside (Chg V w4 (fun k => k = mb ∨ k = rb)) := ⟨HI5.out.then_ hc4 (fun k _ e => .inl e)⟩; have H4 := Aside.mk (And.intro hsz' (And.intro ht4 hc4)); clear hsz' ht4 hc4 HRF HI5))
          all_goals
            clear hcl
            go_wp2
            go_round
            case rel => exact ⟨i + 1, hlt1, hlt2, rfl, HEND⟩
            case measure => simp only [intOf]; omega
        · obtain rfl : r = 3 := by omega
          have HS := Aside.mk (due29 (now := x.I) HTV.out.tim (by omega))
          go_wp2_with (first
            | (go_at_call 33; refine HRS.out.mono ?_; rintro e w5 ⟨v5, outs, rfl, hd2, hro⟩; obtain rfl := dueList_eq H4.out.1 hd2; obtain ⟨Ab, cb, rfl, hfb⟩ := told_b hro; have HFB := Aside.mk hfb; have HRO := Aside.mk hro; clear hd2 hro hfb)
            | (go_at_call 29; refine HS.out.mono ?_; rintro e w4 ⟨va, out, sz', rfl, hd, hu, hsz', ht4, hc4⟩; obtain ⟨Aa, ca, rfl, hof, hfa⟩ := told_a (rb := rb) hu (Chg.refl w4 _) (by have := HM.out.2.2; omega); have m1 : w4.cell? ⟨ob, 1, none⟩ = some (.int .i64 x.I) := (World.cell?_of_block (a := ⟨ob, 1, none⟩) (hc4.block ob HM.out.2.2 (by omega))).trans HM.out.1; have HRS := Aside.mk (rdue_any (now := x.I) (by omega) (HTV.out.mid hc4) HTV.out.rep); have H4 := Aside.mk (And.intro hd (And.intro hu (And.intro hsz' (And.intro ht4 hc4)))); clear hd hu hsz' ht4 hc4 hfa))
          have hEA : ∃ (HX : TLoop w tb mb rb (i + 1) w5), ∀ k (hk : k < out.length), ∃ gb off, Aa = some ⟨gb, off, none⟩ ∧ w5.cell? ⟨gb, off + k, none⟩ = some (.int .u64 out[k]) := by
            obtain ⟨F', G', h5, _, hF', _, _, hc5⟩ := HRO.out
            refine ⟨HTV.out.step H4.out.2.2.2.1 H4.out.2.2.2.2 h5 hc5 (fun k hk => (hF' k hk).2.2) (rep_del HTV.out.rep out) (lft_len hl1) (by have := H4.out.2.2.1; omega) (by omega), ?_⟩
            obtain ⟨A', c', he, _, hfa⟩ := told_a H4.out.2.1 hc5 (by have := HM.out.2.2; omega)
            injection he with e1 e2 e3
            subst e1
            exact hfa
          obtain ⟨hX, hfa⟩ := hEA
          have HEND := Aside.mk hX
          have HFA := Aside.mk hfa
          clear hX hfa HRO H4 HRS HS m1 v0 v1 v2 HM HTV HW
          go_loopw [10] (fun v10 wr => ∃ k : Nat, k ≤ out.length ∧ v10 = .int .i64 k ∧ Aside (Drawn w5 wr)) (fun v10 _ => out.length - (intOf v10).toNat)
          case atStart => exact ⟨0, Nat.zero_le _, rfl, ⟨Drawn.refl _⟩⟩
          case round =>
            obtain ⟨k, hk, rfl, HD⟩ := hrel
            by_cases hkl : k < out.length
            · obtain ⟨ga, off, rfl, fa⟩ := HFA.out k hkl
              obtain ⟨gb, rfl, fb⟩ := HFB.out k hkl
              rw [← HD.out.cell] at fa fb
              generalize out[k] = y at fa fb
              go_upto_region 18 with fail
              go_quiet (fail)
              go_wp2
              go_round
              case rel => exact ⟨k + 1, by omega, rfl, ⟨HD.out.drewN _⟩⟩
              case measure => simp only [intOf]; omega
            · obtain rfl : k = out.length := by omega
              have HE2 := Aside.mk (tloop_drawn HEND.out HD.out)
              clear HFA HFB
              go_wp2
              go_round
              case rel => exact ⟨i + 1, hlt1, hlt2, rfl, HE2⟩
              case measure => simp only [intOf]; omega
    · have HB := Aside.mk (show Below w.heap.size w wo by obtain ⟨_, _, _, _, _, h⟩ := HR.out; exact h.below)
      by_cases hlt1 : i < xs.length
      · obtain rfl : i = 120 := by omega
        go_wp2
        go_ret
        exact ⟨rfl, HB.out⟩
      · obtain rfl : i = xs.length := by omega
        clear hlt
        go_wp2
        go_ret
        exact ⟨rfl, HB.out⟩
end Go.Proofs.Ytjpeaeklhcnpnaa.K
