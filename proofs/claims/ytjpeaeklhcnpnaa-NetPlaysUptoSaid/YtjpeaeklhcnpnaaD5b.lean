/- net.Deliver where there is nothing. No condition. -/
import Derived.Test.YtjpeaeklhcnpnaaD5
namespace Go.Proofs.Ytjpeaeklhcnpnaa.K
open Go.RowKit
set_option linter.unusedVariables false
set_option linter.unusedSimpArgs false
set_option maxHeartbeats 4000000 in
set_option maxRecDepth 100000 in
theorem deliver_no {w : World} {F : Nat → Prop} {b : Nat} {ms : List Msg} {last : Int} (h0 : NetAt w F b ms last) (i : Int) (hi : i < 0 ∨ (ms.length : Int) ≤ i) : Calls Try.prog 19 #[.pointer (some ⟨b, 0, none⟩), .int .i64 i] w (PeekNo w) := by
  have HN := Aside.mk h0
  have HP := fun o => Aside.mk (peek_no (h0.later (Chg.of_below (below_alloc (Below.refl w.heap.size w) o) NoF)) i hi)
  have HI := Aside.mk hi
  clear h0 hi
  go_enter Try.func19, Try.ntmps19
  go_wp2_with fail
  refine (HP _).out.mono ?_
  rintro e w5 ⟨he, hb⟩
  obtain ⟨Z, hZ⟩ : ∃ Z, mZ = Z := ⟨_, rfl⟩
  rw [hZ] at he
  have HZ := Aside.mk hZ
  have HZl := Aside.mk (show Z.size = 41 by rw [← hZ]; rfl)
  have HZ1 := Aside.mk (show Z.all (·.oneCell') = true by rw [← hZ]; exact mZ_one)
  subst he
  have HB5 := Aside.mk hb
  have HZ0 := Aside.mk (blk_below (blk_new w _) hb)
  clear hb HP hZ
  go_wp2_with (refine wpList_store_mid rfl 54 (.tmp 6) (.tmp 12) (by rfl) w5.heap.size 0 Z (by rfl) (by rfl) (there_blk (blk_new w5 _) rfl HZl.out) (j54 HZl.out) HZ1.out ?_)
  generalize hV : (w5.alloc _).setCells _ _ _ = V
  have hV2 : V.rangeAt w5.heap.size 0 Z.toList ∧ Chg w V NoF ∧ V.heap[w.heap.size]? = some (.cells mZ 54 (0, 0)) := by
    rw [← hV]
    exact ⟨World.rangeAt_setCells_same _ _ _ _ (there_blk (blk_new w5 _) rfl (by rw [Array.length_toList]; exact HZl.out)), boxed HB5.out, by rw [setCells_other _ _ _ (by have := HB5.out.size; simp at this; omega)]; exact blk_alloc HZ0.out _⟩
  have HV := Aside.mk hV2
  have HLo := Aside.mk (lose_no (HN.out.later hV2.2.1) i HI.out)
  clear hV hV2 HB5 HZ0
  refine HLo.out.mono ?_
  rintro e w8 ⟨rfl, rfl⟩
  go_wp2_with (first
    | (refine wpList_load_mid rfl 54 (.tmp 6) (by rfl) w5.heap.size 0 (by rfl) Z.toList _ HV.out.1 Try.underlying54 rfl (j54 (by rw [Array.length_toList]; exact HZl.out)) ?_)
    | (refine wpList_store_mid rfl 54 (.tmp 4) (.tmp 17) (by rfl) w.heap.size 0 Z (by rfl) (by rfl) (there_blk HV.out.2.2 rfl HZl.out) (j54 HZl.out) HZ1.out ?_))
  have hst := stored54 (cs := Z.toList) HV.out.2.2 rfl (by rw [Array.length_toList]; exact HZl.out)
  have hbl : Below w.heap.size w (w8.setCells w.heap.size 0 Z.toList) := below_setCells (Nat.le_refl _) _ _ _ (HV.out.2.1.below (Nat.le_refl _) (fun _ h => h.elim))
  exact bodyPost_ret (results_cell2 (p := 4) (u := 5) (ty := 54) rfl rfl rfl hst) rfl ⟨by rw [HZ.out]; rfl, hbl⟩
set_option maxHeartbeats 4000000 in
set_option maxRecDepth 100000 in
theorem deliver_nil (w : World) (i : Int) : Calls Try.prog 19 #[.pointer none, .int .i64 i] w (PeekNo w) := by
  have HP := fun o => Aside.mk (peek_nil (w.alloc o) i)
  go_enter Try.func19, Try.ntmps19
  go_wp2_with fail
  refine (HP _).out.mono ?_
  rintro e w5 ⟨he, hb⟩
  obtain ⟨Z, hZ⟩ : ∃ Z, mZ = Z := ⟨_, rfl⟩
  rw [hZ] at he
  have HZ := Aside.mk hZ
  have HZl := Aside.mk (show Z.size = 41 by rw [← hZ]; rfl)
  have HZ1 := Aside.mk (show Z.all (·.oneCell') = true by rw [← hZ]; exact mZ_one)
  subst he
  have HB5 := Aside.mk hb
  have HZ0 := Aside.mk (blk_below (blk_new w _) hb)
  clear hb HP hZ
  go_wp2_with (refine wpList_store_mid rfl 54 (.tmp 6) (.tmp 12) (by rfl) w5.heap.size 0 Z (by rfl) (by rfl) (there_blk (blk_new w5 _) rfl HZl.out) (j54 HZl.out) HZ1.out ?_)
  generalize hV : (w5.alloc _).setCells _ _ _ = V
  have hV2 : V.rangeAt w5.heap.size 0 Z.toList ∧ Chg w V NoF ∧ V.heap[w.heap.size]? = some (.cells mZ 54 (0, 0)) := by
    rw [← hV]
    exact ⟨World.rangeAt_setCells_same _ _ _ _ (there_blk (blk_new w5 _) rfl (by rw [Array.length_toList]; exact HZl.out)), boxed HB5.out, by rw [setCells_other _ _ _ (by have := HB5.out.size; simp at this; omega)]; exact blk_alloc HZ0.out _⟩
  have HV := Aside.mk hV2
  clear hV hV2 HB5 HZ0
  refine (lose_nil i).mono ?_
  rintro e w8 ⟨rfl, rfl⟩
  go_wp2_with (first
    | (refine wpList_load_mid rfl 54 (.tmp 6) (by rfl) w5.heap.size 0 (by rfl) Z.toList _ HV.out.1 Try.underlying54 rfl (j54 (by rw [Array.length_toList]; exact HZl.out)) ?_)
    | (refine wpList_store_mid rfl 54 (.tmp 4) (.tmp 17) (by rfl) w.heap.size 0 Z (by rfl) (by rfl) (there_blk HV.out.2.2 rfl HZl.out) (j54 HZl.out) HZ1.out ?_))
  have hst := stored54 (cs := Z.toList) HV.out.2.2 rfl (by rw [Array.length_toList]; exact HZl.out)
  have hbl : Below w.heap.size w (w8.setCells w.heap.size 0 Z.toList) := below_setCells (Nat.le_refl _) _ _ _ (HV.out.2.1.below (Nat.le_refl _) (fun _ h => h.elim))
  exact bodyPost_ret (results_cell2 (p := 4) (u := 5) (ty := 54) rfl rfl rfl hst) rfl ⟨by rw [HZ.out]; rfl, hbl⟩
end Go.Proofs.Ytjpeaeklhcnpnaa.K
