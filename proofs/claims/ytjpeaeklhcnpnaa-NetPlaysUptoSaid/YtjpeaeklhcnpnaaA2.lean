/- awake by a contract. No condition. -/
import Derived.Test.YtjpeaeklhcnpnaaA1
namespace Go.Proofs.Ytjpeaeklhcnpnaa.K
open Go.RowKit
set_option linter.unusedVariables false
set_option linter.unusedSimpArgs false
/-- A message that was laid in a new box. -/
theorem box_first {w w' V : World} {F : Nat → Prop} {x : Msg} {cs : List Value} (hV : (w.alloc (.cells mZ 54)).setCells w.heap.size 0 cs = V) (hK : kMsg.K w' F x cs) :
    V.cell? ⟨w.heap.size, 0, none⟩ = some (.int .i64 x.Kind) ∧ Below w.heap.size w V ∧ w.heap.size < V.heap.size ∧ V.rangeAt w.heap.size 0 cs := by
  subst hV
  have hr : ((w.alloc (.cells mZ 54)).setCells w.heap.size 0 cs).rangeAt w.heap.size 0 cs := World.rangeAt_setCells_same _ _ _ _ (there_blk (blk_new w _) rfl (kMsg.len hK))
  have hb := below_setCells (Nat.le_refl _) cs 0 _ (below_alloc (Below.refl w.heap.size w) (.cells mZ 54))
  refine ⟨hr 0 _ (kMsg_first hK).1, hb, ?_, hr⟩
  have := (below_setCells (w := w.alloc (.cells mZ 54)) (Nat.zero_le _) cs 0 _ (Below.refl 0 _) : Below 0 _ ((w.alloc (.cells mZ 54)).setCells w.heap.size 0 cs)).size
  simp at this
  omega
set_option maxHeartbeats 4000000 in
set_option maxRecDepth 100000 in
theorem awake_any (w : World) : Calls Try.prog 8 #[] w fun e w' => e = .returned (.bool true) ∧ Below w.heap.size w w' := by
  go_enter Try.func8, Try.ntmps8
  go_wp2_with fail
  refine (new_any w).mono ?_
  rintro e w1 ⟨rfl, hN1, hB1⟩
  have HB1 := Aside.mk hB1
  have HS1 := Aside.mk (send_at (w := w1) hN1 (bare 7 0) (bareC 7 0).toList (kMsg_bare _ _ 7 0 rfl rfl) (by decide) (by decide) (by decide))
  clear hN1 hB1
  go_wp2_with fail
  refine HS1.out.mono ?_
  rintro e w2 ⟨rfl, hN, hB⟩
  have HB2 := Aside.mk (HB1.out.trans hB)
  have HS2 := Aside.mk (send_at hN (bare 8 0) (bareC 8 0).toList (kMsg_bare _ _ 8 0 rfl rfl) (by decide) (by decide) (by decide))
  clear hN hB HS1 HB1
  go_wp2_with fail
  refine HS2.out.mono ?_
  rintro e w3 ⟨rfl, hN, hB⟩
  have HB3 := Aside.mk (HB2.out.trans hB)
  have HS3 := Aside.mk (twice_at hN 0 (by decide) (by decide))
  clear hN hB HS2 HB2
  go_wp2_with fail
  refine HS3.out.mono ?_
  rintro e w4 ⟨rfl, hN, hB⟩
  have hN' : NetAt w4 (After w.heap.size) w.heap.size [withId (bare 7 0) 1, withId (bare 8 0) 2, withId (bare 7 0) 1] 2 := hN
  have HB4 := Aside.mk (HB3.out.trans hB)
  have HL4 := Aside.mk hN'.lt
  have HS4 := Aside.mk (deliver_yes hN'.known 0 (by decide))
  clear hN hN' hB HS3 HB3
  go_wp2_with fail
  refine HS4.out.mono ?_
  rintro e w5 ⟨cs, rfl, hK, hN, hC⟩
  have HK5 := Aside.mk hK
  have HN5 := Aside.mk hN
  have HC5 := Aside.mk hC
  clear hK hN hC HS4
  go_wp2_with (refine wpList_store_mid rfl 54 (.tmp 5) (.tmp 26) (by rfl) w5.heap.size 0 cs.toArray (by rfl) (by rfl) (there_blk (blk_new w5 _) rfl (by rw [List.size_toArray]; exact kMsg.len HK5.out)) (j54 (by rw [List.size_toArray]; exact kMsg.len HK5.out)) (all_oneCell_toArray (kMsg.one HK5.out)) ?_)
  generalize hV : (w5.alloc _).setCells _ _ _ = V5
  obtain ⟨hc5, hb5, hl5, hr5⟩ := box_first hV HK5.out
  have HV5 := Aside.mk (And.intro hc5 (And.intro hb5 hl5))
  have hN5 := HN5.out.later (Chg.of_below hb5 NoF)
  have HS5 := Aside.mk (deliver_yes hN5 1 (by decide))
  clear hV hr5 hc5 hb5 hl5 hN5 HK5 HN5
  refine HS5.out.mono ?_
  rintro e w6 ⟨cs6, rfl, hK, hN, hC⟩
  have HK6 := Aside.mk hK
  have HN6 := Aside.mk hN
  have HC6 := Aside.mk hC
  clear hK hN hC HS5
  go_wp2_with (refine wpList_store_mid rfl 54 (.tmp 7) (.tmp 31) (by rfl) w6.heap.size 0 cs6.toArray (by rfl) (by rfl) (there_blk (blk_new w6 _) rfl (by rw [List.size_toArray]; exact kMsg.len HK6.out)) (j54 (by rw [List.size_toArray]; exact kMsg.len HK6.out)) (all_oneCell_toArray (kMsg.one HK6.out)) ?_)
  generalize hV : (w6.alloc _).setCells _ _ _ = V6
  obtain ⟨hc6, hb6, hl6, hr6⟩ := box_first hV HK6.out
  have hN6 := HN6.out.later (Chg.of_below hb6 NoF)
  have hg6 : Chg w4 V6 (fun k => w.heap.size ≤ k) := Chg.then_ (Chg.then_ (Chg.then_ (HC5.out.mono fun k _ h => h.elim (fun h => Nat.le_of_lt h.1) (fun h => by omega)) (Chg.of_below HV5.out.2.1 (fun k => w.heap.size ≤ k)) fun k _ h => h) HC6.out fun k _ h => h.elim (fun h => Nat.le_of_lt h.1) (fun h => by omega)) (Chg.of_below hb6 (fun k => w.heap.size ≤ k)) fun k _ h => h
  have hw6 : Below w.heap.size w V6 := HB4.out.trans (hg6.below (Nat.le_of_lt HL4.out) (fun k h => h))
  have hlt : w5.heap.size < w6.heap.size := Nat.lt_of_lt_of_le HV5.out.2.2 HC6.out.size
  have hc5 : V6.cell? ⟨w5.heap.size, 0, none⟩ = some (.int .i64 7) := by
    rw [World.cell?_of_block (w := w6) (hb6.block _ hlt), World.cell?_of_block (w := V5) (HC6.out.block _ HV5.out.2.2 (fun h => by
      have h4 := HC5.out.size
      have h5 := HL4.out
      rcases h with h | h
      · have : w5.heap.size < w4.heap.size := h.2
        omega
      · have : w5.heap.size = w.heap.size := h
        omega))]
    exact HV5.out.1
  have HV6 := Aside.mk (And.intro hc5 (And.intro hc6 (And.intro hN6.known hw6)))
  have hl6' : w5.heap.size < V6.heap.size := Nat.lt_trans hlt hl6
  have HS6 := Aside.mk (newSeen_any 2 rfl V6)
  clear hV hr6 hc5 hb6 hN6 hg6 hw6 HV5 HK6 HN6 hc6 HC6 HC5 HB4 hlt
  go_wp2_with fail
  refine HS6.out.mono ?_
  rintro e w7 ⟨sb, rfl, hsb, hS, hB⟩
  have HB7 := Aside.mk hB
  have HS7 := Aside.mk (fresh_any hS (fun k => ⟨List.Pairwise.nil, Nat.zero_le _⟩) (by decide) (by decide) (by decide) 3 5 rfl)
  clear hB HS6
  go_wp2_with fail
  refine HS7.out.mono ?_
  rintro e w8 ⟨rfl, ⟨n', hn', hS8⟩, hC⟩
  have HB8 := Aside.mk (HB7.out.trans (hC.below HB7.out.size (fun k h => h.1)))
  have hS8' : SeenAt w8 (fun k => V6.heap.size ≤ k ∧ k ≠ sb) sb n' 2 (fun k => if k = 3 then [5] else []) := SeenAt.mono hS8 (fun k h => h.elim (fun h => h) (fun h => ⟨Nat.le_trans HB7.out.size h, by have := hS.lt; omega⟩)) (fun h => h.2 rfl)
  have HS8 := Aside.mk (fresh_any hS8' (fun k => by by_cases e : k = 3 <;> simp [e]) (by decide) (by decide) (by omega) 3 5 rfl)
  clear hS hS8 hS8' hC HS7 HB7
  go_wp2_with fail
  refine HS8.out.mono ?_
  rintro e w9 ⟨rfl, _, hC⟩
  have hB9 := HB8.out.trans (hC.below HB8.out.size (fun k h => h.1))
  have hc5 : w9.cell? ⟨w5.heap.size, 0, none⟩ = some (.int .i64 7) := (World.cell?_of_block (w := V6) (hB9.block _ hl6')).trans HV6.out.1
  have hc6 : w9.cell? ⟨w6.heap.size, 0, none⟩ = some (.int .i64 7) := (World.cell?_of_block (w := V6) (hB9.block _ hl6)).trans HV6.out.2.1
  have hN9 := HV6.out.2.2.1.later (Chg.of_below hB9 NoF)
  have HW := Aside.mk (waiting_any hN9)
  have HB9 := Aside.mk (HV6.out.2.2.2.trans (hB9.mono HV6.out.2.2.2.size))
  clear hC HS8 HB8 hB9 hN9
  go_wp2_with (go_at_call 22; refine HW.out.mono ?_; rintro e w' ⟨rfl, rfl⟩)
  go_ret
  exact ⟨rfl, HB9.out⟩
end Go.Proofs.Ytjpeaeklhcnpnaa.K
