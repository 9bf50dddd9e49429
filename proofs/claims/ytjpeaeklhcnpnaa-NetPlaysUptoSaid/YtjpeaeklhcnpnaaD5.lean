/- net.Deliver by a contract. No condition. -/
import Derived.Test.YtjpeaeklhcnpnaaD4
namespace Go.Proofs.Ytjpeaeklhcnpnaa.K
open Go.RowKit
set_option linter.unusedVariables false
set_option linter.unusedSimpArgs false
def NoF : Nat → Prop := fun _ => False
/-- A new box that was written whole. -/
theorem boxed {w w5 : World} {o o2 : Obj} {cs : List Value} (hb : Below (w.alloc o).heap.size (w.alloc o) w5) : Chg w ((w5.alloc o2).setCells w5.heap.size 0 cs) NoF :=
  Chg.sets (.inr (by have := hb.size; simp at this; omega)) _ _ ((Chg.of_below (below_self (below_alloc (Below.refl w.heap.size w) o) hb) NoF).alloc o2)
theorem NetAt.later {w w' : World} {F : Nat → Prop} {b : Nat} {ms : List Msg} {last : Int} (h : NetAt w F b ms last) (hc : Chg w w' NoF) : NetAt w' F b ms last := h.chg hc (fun _ _ hf => hf) (fun hf => hf)
theorem boxed_all {w w5 V : World} {o o2 : Obj} {x : Msg} {cs : List Value} (hV : (w5.alloc (.cells mZ 54)).setCells w5.heap.size 0 cs = V) (hb : Below (w.alloc o).heap.size (w.alloc o) w5) (hz : w5.heap[w.heap.size]? = some o2) (hl : cs.length = kMsg.sz) (hK : kMsg.K w5 (New (w.alloc o)) x cs) :
    V.rangeAt w5.heap.size 0 cs ∧ Chg w V NoF ∧ kMsg.K V (fun k => w.heap.size < k ∧ k < w5.heap.size) x cs ∧ V.heap[w.heap.size]? = some o2 := by
  subst hV
  have h1 := blk_new w5 (.cells mZ 54)
  have hs := blk_lt hz
  refine ⟨World.rangeAt_setCells_same _ _ _ _ (there_blk h1 rfl (by rw [hl]; rfl)), boxed hb, ?_, ?_⟩
  · refine kMsg.move (fun k hk _ => setCells_other _ _ _ (by omega)) (kMsg.mono (fun k hk => ?_) (Kd.below (kMsg.lt hK) (below_alloc (Below.refl _ _) _)))
    have := hk.1
    simp only [New, World.size_alloc] at this
    exact ⟨by omega, hk.2⟩
  · rw [setCells_other _ _ _ (by omega)]
    exact blk_alloc hz _
/-- What Lose leaves alone. -/
theorem deliver_kept {w V w8 : World} {F : Nat → Prop} {b z : Nat} {o : Obj} {x : Msg} {cs : List Value} (hr : V.rangeAt z 0 cs) (hK : kMsg.K V (fun k => w.heap.size < k ∧ k < z) x cs) (hz : V.heap[w.heap.size]? = some o) (hc : Chg V w8 (fun k => (F k ∧ k < w.heap.size) ∨ k = b)) (hb : b < w.heap.size) (hwz : w.heap.size < z) (hs : w.heap.size ≤ V.heap.size) :
    w8.rangeAt z 0 cs ∧ kMsg.K w8 (fun k => w.heap.size < k) x cs ∧ w8.heap[w.heap.size]? = some o := by
  have hk : ∀ k, w.heap.size ≤ k → k < V.heap.size → w8.heap[k]? = V.heap[k]? := fun k h1 h2 => hc.block k h2 (by rintro (h | h) <;> omega)
  have hVz := blk_lt hz
  refine ⟨?_, kMsg.mono (fun k hk => hk.1) (kMsg.move (fun k h1 h2 => hk k (by omega) h2) hK), (hk _ (Nat.le_refl _) hVz).trans hz⟩
  rcases Nat.lt_or_ge z V.heap.size with h | h
  · exact Kd.range_move hr (hk z (by omega) h)
  · intro j v hv
    have := World.block_lt_of_cell? V _ (hr j v hv)
    simp at this
    omega
def DeliverYes (w : World) (F : Nat → Prop) (b i : Nat) (ms : List Msg) (x : Msg) (last : Int) (e : Ending) (w' : World) : Prop :=
  ∃ cs, e = .returned (.tuple #[.agg cs.toArray, .bool true]) ∧ kMsg.K w' (New w) x cs ∧ NetAt w' F b (ms.eraseIdx i) last ∧ Chg w w' (fun k => F k ∨ k = b)
theorem deliver_end {w V w8 : World} {F : Nat → Prop} {b i : Nat} {ms : List Msg} {x : Msg} {last : Int} {cs : List Value} (hV : Chg w V NoF) (hK : kMsg.K w8 (fun k => w.heap.size < k) x cs) (hN : NetAt w8 (fun k => F k ∧ k < w.heap.size) b (ms.eraseIdx i) last)
    (hc : Chg V w8 (fun k => (F k ∧ k < w.heap.size) ∨ k = b)) (hb : ¬ F b ∧ b < w.heap.size) : DeliverYes w F b i ms x last (.returned (.tuple #[.agg cs.toArray, .bool true])) (w8.setCells w.heap.size 0 cs) := by
  have hcs : Chg w8 (w8.setCells w.heap.size 0 cs) (fun k => k = w.heap.size) := Chg.sets (F := fun k => k = w.heap.size) (.inl rfl) _ _ (Chg.refl w8 _)
  refine ⟨cs, rfl, kMsg.mono (fun k (hk : w.heap.size < k) => Nat.le_of_lt hk) (kMsg.move (fun k hk _ => setCells_other _ _ _ (by omega)) hK), ?_, ?_⟩
  · exact (hN.chg hcs (fun k hk h => by omega) (by omega)).mono (fun k hk => hk.1) hb.1
  · exact Chg.sets (.inr (Nat.le_refl _)) _ _ ((hV.mono (fun _ _ h => h.elim)).then_ hc (fun k _ hk => hk.imp (fun h => h.1) id))
set_option maxHeartbeats 4000000 in
set_option maxRecDepth 100000 in
theorem deliver_yes {w : World} {F : Nat → Prop} {b : Nat} {ms : List Msg} {last : Int} (h0 : NetAt w F b ms last) (i : Nat) (hi : i < ms.length) : Calls Try.prog 19 #[.pointer (some ⟨b, 0, none⟩), .int .i64 i] w (DeliverYes w F b i ms ms[i] last) := by
  have hbF : ¬ F b := by obtain ⟨_, _, _, _, h⟩ := h0; exact h
  have HB := Aside.mk (And.intro hbF h0.lt)
  have HN := Aside.mk h0.known
  have HP := fun o => Aside.mk (peek_yes (h0.known.later (Chg.of_below (below_alloc (Below.refl w.heap.size w) o) NoF)) i hi)
  clear h0 hbF
  go_enter Try.func19, Try.ntmps19
  go_wp2_with fail
  refine (HP _).out.mono ?_
  rintro e w5 ⟨cs, rfl, hK, hb⟩
  have HK := Aside.mk hK
  have HB5 := Aside.mk hb
  have HL := Aside.mk (kMsg.len hK)
  have HO := Aside.mk (kMsg.one hK)
  have HZ0 := Aside.mk (blk_below (blk_new w _) hb)
  clear hK hb
  go_wp2_with (refine wpList_store_mid rfl 54 (.tmp 6) (.tmp 12) (by rfl) w5.heap.size 0 cs.toArray (by rfl) (by rfl) (there_blk (blk_new w5 _) rfl (by rw [List.size_toArray]; exact HL.out)) (j54 (by rw [List.size_toArray]; exact HL.out)) (all_oneCell_toArray HO.out) ?_)
  generalize hV : (w5.alloc _).setCells _ _ _ = V
  obtain ⟨hVr, hVc, hVk, hVz⟩ := boxed_all hV HB5.out HZ0.out HL.out HK.out
  have HV := Aside.mk (And.intro hVr (And.intro hVc (And.intro hVk hVz)))
  have HLo := Aside.mk (lose_yes (HN.out.later hVc) i hi)
  have hw5 := Aside.mk (show w.heap.size < w5.heap.size by have := HB5.out.size; simp at this; omega)
  clear hV hVr hVc hVk hVz HK HB5 HZ0 HP
  refine HLo.out.mono ?_
  rintro e w8 ⟨rfl, hN8, hC8⟩
  have HN8 := Aside.mk hN8
  have HC8 := Aside.mk hC8
  have HK8 := Aside.mk (deliver_kept HV.out.1 HV.out.2.2.1 HV.out.2.2.2 hC8 HB.out.2 hw5.out HV.out.2.1.size)
  clear hN8 hC8
  go_wp2_with (first
    | (refine wpList_load_mid rfl 54 (.tmp 6) (by rfl) w5.heap.size 0 (by rfl) cs _ HK8.out.1 Try.underlying54 rfl (j54 HL.out) ?_)
    | (refine wpList_store_mid rfl 54 (.tmp 4) (.tmp 17) (by rfl) w.heap.size 0 cs.toArray (by rfl) (by rfl) (there_blk HK8.out.2.2 rfl (by rw [List.size_toArray]; exact HL.out)) (j54 (by rw [List.size_toArray]; exact HL.out)) (all_oneCell_toArray HO.out) ?_))
  exact bodyPost_ret (results_cell2 (p := 4) (u := 5) (ty := 54) rfl rfl rfl (stored54 HK8.out.2.2 rfl HL.out)) rfl (deliver_end HV.out.2.1 HK8.out.2.1 HN8.out HC8.out HB.out)
end Go.Proofs.Ytjpeaeklhcnpnaa.K
