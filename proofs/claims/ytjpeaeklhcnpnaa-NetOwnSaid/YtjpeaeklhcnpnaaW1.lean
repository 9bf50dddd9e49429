/- The law NetOwn returns true at every input: the walk. No condition. -/
import Derived.Test.YtjpeaeklhcnpnaaW2
namespace Go.Proofs.Ytjpeaeklhcnpnaa.K
open Go.RowKit
set_option linter.unusedVariables false
set_option linter.unusedSimpArgs false
set_option maxHeartbeats 8000000 in
set_option maxRecDepth 100000 in
theorem netOwn_any (w : World) (i id : Int) (hi : (Lit.int .i64 i).wf = true) (hid : (Lit.int .u64 id).wf = true) :
    Calls Try.prog 6 #[.int .i64 i, .int .u64 id] w fun e w' => e = .returned (.bool true) ∧ Below w.heap.size w w' := by
  obtain ⟨zs, hz, hT0⟩ := told_zero w
  have HZ := Aside.mk hz
  have HT := Aside.mk hT0
  clear hz hT0
  go_enter Try.func6, Try.ntmps6
  go_wp2_with fail
  refine (awake_any w).mono ?_
  rintro e w1 ⟨rfl, hB⟩
  have HB1 := Aside.mk hB
  clear hB
  go_wp2_with fail
  refine (peek_nil w1 i).mono ?_
  rintro e w2 ⟨rfl, hB⟩
  rw [HZ.out]
  have HB2 := Aside.mk (below_self HB1.out hB)
  clear hB HB1
  go_wp2_with (refine wpList_store_mid rfl 54 (.tmp 9) (.tmp 26) (by rfl) w2.heap.size 0 zs.toArray (by rfl) (by rfl) (there_blk (blk_new w2 _) rfl (by rw [List.size_toArray]; exact HT.out.1)) (j54 (by rw [List.size_toArray]; exact HT.out.1)) (all_oneCell_toArray HT.out.2.1) ?_)
  generalize hV : (w2.alloc _).setCells _ _ _ = V2
  obtain ⟨_, _, hvb, hvl⟩ := box_told hV HT.out
  have HV2 := Aside.mk (below_self HB2.out hvb)
  clear hV hvb hvl HB2
  refine (deliver_nil V2 i).mono ?_
  rintro e w3 ⟨rfl, hB⟩
  rw [HZ.out]
  have HB3 := Aside.mk (below_self HV2.out hB)
  clear hB HV2
  go_wp2_with (refine wpList_store_mid rfl 54 (.tmp 11) (.tmp 32) (by rfl) w3.heap.size 0 zs.toArray (by rfl) (by rfl) (there_blk (blk_new w3 _) rfl (by rw [List.size_toArray]; exact HT.out.1)) (j54 (by rw [List.size_toArray]; exact HT.out.1)) (all_oneCell_toArray HT.out.2.1) ?_)
  generalize hV : (w3.alloc _).setCells _ _ _ = V3
  obtain ⟨_, _, hvb, hvl⟩ := box_told hV HT.out
  have HV3 := Aside.mk (below_self HB3.out hvb)
  clear hV hvb hvl HB3
  go_wp2_with (go_at_call 27; refine (set_nil _ _ _).mono ?_; rintro e w' ⟨rfl, hw⟩; obtain rfl := hw.symm)
  refine (send_nil V3 (bareC 0 0).toList).mono ?_
  rintro e w4 ⟨rfl, hB⟩
  have HB4 := Aside.mk (below_self HV3.out hB)
  clear hB HV3
  go_wp2_with (first
    | (go_at_call 22; refine (waiting_nil _).mono ?_; rintro e w' ⟨rfl, hw⟩; obtain rfl := hw.symm)
    | (go_at_call 15; refine (lose_nil _).mono ?_; rintro e w' ⟨rfl, hw⟩; obtain rfl := hw.symm))
  refine (twice_nil w4 i).mono ?_
  rintro e w5 ⟨rfl, hB⟩
  have HB5 := Aside.mk (below_self HB4.out hB)
  clear hB HB4
  go_wp2_with (first
    | (go_at_call 25; refine (fresh_nil _ _ _).mono ?_; rintro e w' ⟨rfl, hw⟩; obtain rfl := hw.symm)
    | (go_at_call 28; refine (stop_nil _ _).mono ?_; rintro e w' ⟨rfl, hw⟩; obtain rfl := hw.symm))
  refine (due_nil w5 i).mono ?_
  rintro e w6 ⟨rfl, hB⟩
  have HB6 := Aside.mk (below_self HB5.out hB)
  clear hB HB5
  go_wp2_with fail
  refine (new_any w6).mono ?_
  rintro e w7 ⟨rfl, hN, hB⟩
  have HN7 := Aside.mk hN.known
  have HB7 := Aside.mk (below_self HB6.out hB)
  have HL7 := Aside.mk (And.intro hN.lt HB6.out.size)
  clear hN hB HB6
  generalize hn : w7.heap.size = n at *
  go_upto_region 14 with (refine wpList_store_mid rfl 54 (.tmp 14) (.tmp 89) (by rfl) (n + 4) 0 (ownX n) (by rfl) (by rfl) ?q1 ?q2 ?q3 ?q4; exact there_blk (ownW_in hn).1 rfl rfl; exact j54 rfl; exact ownX_one n)
  generalize hV : World.setCells _ _ _ _ = V
  have hW : OwnIn V n ∧ Below n w7 V ∧ n + 4 < V.heap.size := by rw [← hV]; exact (ownW_in hn).2
  have HI := Aside.mk hW
  have HBV := Aside.mk (HB7.out.trans (hW.2.1.mono (by have := HL7.out; omega)))
  have HSd := Aside.mk (send_any (HN7.out.chg (Chg.of_below (w := w7) (by rw [hn]; exact hW.2.1) NoF) (fun _ _ h => h) (fun h => h)) xOwn (ownX n).toList (own_K hW.1 (F := fun k => k ≠ w6.heap.size) (fun k hk => by have := HL7.out; omega)) (by decide) (by decide) (by decide))
  clear hV hW
  go_wp2_with (refine wpList_load_mid rfl 54 (.tmp 14) (by rfl) (n + 4) 0 (by rfl) (ownX n).toList _ HI.out.1.b4 Try.underlying54 rfl (j54 rfl) ?_)
  refine HSd.out.mono ?_
  rintro e w8 ⟨rfl, hN, hC⟩
  have hnb : ∀ k, n ≤ k → k ≤ n + 4 → w8.heap[k]? = V.heap[k]? := fun k h1 h2 => hC.block k (by have := HI.out.2.2; omega) (fun h => by
    have := HL7.out
    rcases h with h | h
    · omega
    · omega)
  have x39 : w8.cell? ⟨n + 1 + 1 + 1 + 1, 39, none⟩ = some (.slice (some ⟨n, 0, none⟩) 1 1) := (World.cell?_of_block (w := V) (hnb (n + 4) (by omega) (by omega))).trans (HI.out.1.b4 39 _ rfl)
  have x10 : w8.cell? ⟨n + 1 + 1 + 1 + 1, 10, none⟩ = some (.slice (some ⟨n + 1, 0, none⟩) 1 1) := (World.cell?_of_block (w := V) (hnb (n + 4) (by omega) (by omega))).trans (HI.out.1.b4 10 _ rfl)
  have x21 : w8.cell? ⟨n + 1 + 1 + 1 + 1, 21, none⟩ = some (.slice (some ⟨n + 3, 0, none⟩) 1 1) := (World.cell?_of_block (w := V) (hnb (n + 4) (by omega) (by omega))).trans (HI.out.1.b4 21 _ rfl)
  have k0 := (hnb n (by omega) (by omega)).trans HI.out.1.b0
  have k1 := (hnb (n + 1) (by omega) (by omega)).trans HI.out.1.b1
  have k2 := (hnb (n + 2) (by omega) (by omega)).trans HI.out.1.b2
  have k3 := (hnb (n + 3) (by omega) (by omega)).trans HI.out.1.b3
  have y0 : w8.cell? ⟨n, 2, none⟩ = some (.int .i64 1) := (blk_cell k0 2).trans rfl
  have y1 : w8.cell? ⟨n + 1, 0, none⟩ = some (.string ⟨#[97]⟩) := (blk_cell k1 0).trans rfl
  have y2 : w8.cell? ⟨n + 2, 0, none⟩ = some (.int .i64 1) := (blk_cell k2 0).trans rfl
  have y3 : w8.cell? ⟨n + 3, 0, none⟩ = some (.slice (some ⟨n + 2, 0, none⟩) 1 1) := (blk_cell k3 0).trans rfl
  have g0 : w8.frozen? ⟨n, 2, none⟩ = false := blk_frozen k0 2
  have g1 : w8.frozen? ⟨n + 1, 0, none⟩ = false := blk_frozen k1 0
  have g2 : w8.frozen? ⟨n + 2, 0, none⟩ = false := blk_frozen k2 0
  have HN8 := Aside.mk hN.known
  have HB8 := Aside.mk (HBV.out.trans (hC.below HBV.out.size (fun k h => by
    have := HL7.out
    rcases h with h | h
    · omega
    · omega)))
  have HL8 := Aside.mk (Nat.lt_of_lt_of_le HI.out.2.2 hC.size)
  clear hN hC hnb k0 k1 k2 k3 HSd
  go_wp2_with fail
  generalize hW9 : World.setCell _ _ _ = W9
  have hc9 : Chg w8 W9 (fun k => n ≤ k ∧ k ≤ n + 4) := by
    rw [← hW9]
    exact Chg.set (Chg.set (Chg.set (Chg.refl _ _) (.inl ⟨Nat.le_refl _, by show n ≤ n + 4; omega⟩) _) (.inl ⟨by show n ≤ n + 1; omega, by show n + 1 ≤ n + 4; omega⟩) _) (.inl ⟨by show n ≤ n + 2; omega, by show n + 2 ≤ n + 4; omega⟩) _
  have hN9 : NetAt W9 (fun k => ((w6.heap.size < k ∧ k < n) ∨ V.heap.size ≤ k) ∧ k < w8.heap.size) w6.heap.size [withId xOwn 1] 1 := HN8.out.chg hc9 (fun k hk h => by
    have := HI.out.2.2
    rcases hk.1 with h1 | h1
    · omega
    · omega) (fun h => by have := HL7.out; omega)
  have HN9 := Aside.mk hN9.known
  have HB9 := Aside.mk (HB8.out.trans (hc9.below HB8.out.size (fun k h => by have := HL7.out; omega)))
  have HP := Aside.mk (peek_shp hN9 0 (by decide))
  clear hW9 hc9 hN9 x39 x10 x21 y0 y1 y2 y3 g0 g1 g2 HN8 HB8
  refine HP.out.mono ?_
  rintro e w10 ⟨cs, rfl, hK, hB, hS⟩
  obtain ⟨gg, gs, gi, q1, q2, q3, e39, e21, m1, l1, m2, m3, l2, f1, f2, f3, d1, d2, d3⟩ := own_y hK hS
  have HK := Aside.mk hK
  have HF := Aside.mk (And.intro f1 f3)
  have HN10 := Aside.mk (HN9.out.later (Chg.of_below hB NoF))
  have HB10 := Aside.mk (below_self HB9.out hB)
  have HQ := Aside.mk (And.intro e39 (And.intro e21 (And.intro m1 (And.intro l1 (And.intro m2 (And.intro m3 l2))))))
  have HS10 := Aside.mk hB.size
  clear hK hB hS HP e39 e21 m1 l1 m2 m3 l2 f1 f2 f3
  go_upto_region 19 with (refine wpList_store_mid rfl 54 (.tmp 15) (.tmp 110) (by rfl) w10.heap.size 0 cs.toArray (by rfl) (by rfl) (there_blk (blk_new w10 _) rfl (by rw [List.size_toArray]; exact kMsg.len HK.out)) (j54 (by rw [List.size_toArray]; exact kMsg.len HK.out)) (all_oneCell_toArray (kMsg.one HK.out)) ?_)
  generalize hV10 : World.setCells _ _ _ _ = V10
  obtain ⟨_, hb10, hl10, hr10⟩ := box_first (V := V10) hV10 HK.out
  obtain ⟨e39, e21, m1, l1, m2, m3, l2⟩ := HQ.out
  have z39 : V10.cell? ⟨w10.heap.size, 39, none⟩ = some (.slice (some ⟨gg, 0, none⟩) 1 q1) := by have := hr10 39 _ e39; rwa [Nat.zero_add] at this
  have z21 : V10.cell? ⟨w10.heap.size, 21, none⟩ = some (.slice (some ⟨gs, 0, none⟩) 1 q2) := by have := hr10 21 _ e21; rwa [Nat.zero_add] at this
  have lg : gg < w10.heap.size := World.block_lt_of_cell? w10 _ m1
  have ls : gs < w10.heap.size := World.block_lt_of_cell? w10 _ m2
  have li : gi < w10.heap.size := World.block_lt_of_cell? w10 _ m3
  have p1 : V10.cell? ⟨gg, 2, none⟩ = some (.int .i64 1) := (hb10.cell (p := ⟨gg, 2, none⟩) lg).trans m1
  have p2 : V10.cell? ⟨gs, 0, none⟩ = some (.slice (some ⟨gi, 0, none⟩) 1 q3) := (hb10.cell (p := ⟨gs, 0, none⟩) ls).trans m2
  have p3 : V10.cell? ⟨gi, 0, none⟩ = some (.int .i64 1) := (hb10.cell (p := ⟨gi, 0, none⟩) li).trans m3
  have r1 : V10.frozen? ⟨gg, 2, none⟩ = false := (hb10.frozen (p := ⟨gg, 2, none⟩) lg).trans l1
  have r3 : V10.frozen? ⟨gi, 0, none⟩ = false := (hb10.frozen (p := ⟨gi, 0, none⟩) li).trans l2
  have t1 : w10.heap.size ≠ gg := by omega
  have t2 : w10.heap.size ≠ gi := by omega
  have HN11 := Aside.mk (HN10.out.later (Chg.of_below hb10 NoF))
  have HB11 := Aside.mk (below_self HB10.out hb10)
  clear hV10 hb10 hr10 e39 e21 m1 l1 m2 m3 l2 lg ls li HN10 HB10
  go_wp2_with fail
  generalize hW11 : World.setCell _ _ _ = W11
  have hc11 : Chg V10 W11 (fun k => k = gg ∨ k = gi) := by
    rw [← hW11]
    exact Chg.set (Chg.set (Chg.refl _ _) (.inl (.inl rfl)) _) (.inl (.inr rfl)) _
  have hge : W9.heap.size ≤ gg ∧ W9.heap.size ≤ gi := HF.out
  have hnw := HN9.out.lt
  have hN11 := HN11.out.chg hc11 (fun k hk h => by
    have := hk.2
    rcases h with h | h <;> omega) (fun h => by rcases h with h | h <;> omega)
  have HDv := Aside.mk (deliver_yes hN11 0 (by decide))
  have HB12 := Aside.mk (HB11.out.trans (hc11.below HB11.out.size (fun k h => by
    have := HB9.out.size
    rcases h with h | h <;> omega)))
  clear hW11 hc11 hN11 z39 z21 p1 p2 p3 r1 r3 HN11 HB11
  refine HDv.out.mono ?_
  rintro e w12 ⟨cs2, rfl, hK, hN, hC⟩
  have HB13 := Aside.mk (HB12.out.trans (hC.below HB12.out.size (fun k h => by
    have h1 := HL7.out
    have h2 := HI.out.2.1.size
    rcases h with h | h
    · have h3 : ((w6.heap.size < k ∧ k < n) ∨ V.heap.size ≤ k) := h.1.1
      rcases h3 with h3 | h3 <;> omega
    · omega)))
  have HK2 := Aside.mk hK
  clear hK hN hC HDv HB12
  go_upto_region 22 with (refine wpList_store_mid rfl 54 (.tmp 17) (.tmp 125) (by rfl) w12.heap.size 0 cs2.toArray (by rfl) (by rfl) (there_blk (blk_new w12 _) rfl (by rw [List.size_toArray]; exact kMsg.len HK2.out)) (j54 (by rw [List.size_toArray]; exact kMsg.len HK2.out)) (all_oneCell_toArray (kMsg.one HK2.out)) ?_)
  generalize hV12 : World.setCells _ _ _ _ = V12
  obtain ⟨_, hb12, hl12, hr12⟩ := box_first (V := V12) hV12 HK2.out
  obtain ⟨a1, a2, a3, a4, c1, c2, c3, c4, e39, e10, e21, m1, m2, m3, m4, _, _, _, _⟩ := own_z HK2.out
  have z39 : V12.cell? ⟨w12.heap.size, 39, none⟩ = some (.slice (some a1) 1 c1) := by have := hr12 39 _ e39; rwa [Nat.zero_add] at this
  have z10 : V12.cell? ⟨w12.heap.size, 10, none⟩ = some (.slice (some a2) 1 c2) := by have := hr12 10 _ e10; rwa [Nat.zero_add] at this
  have z21 : V12.cell? ⟨w12.heap.size, 21, none⟩ = some (.slice (some a3) 1 c3) := by have := hr12 21 _ e21; rwa [Nat.zero_add] at this
  have p1 : V12.cell? ⟨a1.block, a1.off + 2, none⟩ = some (.int .i64 1) := (hb12.cell (World.block_lt_of_cell? w12 _ m1)).trans m1
  have p2 : V12.cell? a2 = some (.string ⟨#[97]⟩) := (hb12.cell (World.block_lt_of_cell? w12 _ m2)).trans m2
  have p3 : V12.cell? a3 = some (.slice (some a4) 1 c4) := (hb12.cell (World.block_lt_of_cell? w12 _ m3)).trans m3
  have p4 : V12.cell? a4 = some (.int .i64 1) := (hb12.cell (World.block_lt_of_cell? w12 _ m4)).trans m4
  have HB14 := Aside.mk (below_self HB13.out hb12)
  clear hV12 hb12 hr12 e39 e10 e21 m1 m2 m3 m4 HB13
  go_wp2
  go_ret
  exact ⟨rfl, HB14.out⟩
end Go.Proofs.Ytjpeaeklhcnpnaa.K
