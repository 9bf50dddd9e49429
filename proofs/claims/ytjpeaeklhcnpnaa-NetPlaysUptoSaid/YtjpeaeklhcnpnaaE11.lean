/- The reference's net in memory; its Peek and Lose by contracts. No condition but small numbers. -/
import Derived.Test.YtjpeaeklhcnpnaaD6
import Derived.Test.YtjpeaeklhcnpnaaR1
namespace Go.Proofs.Ytjpeaeklhcnpnaa.K
open Go.RowKit
set_option linter.unusedVariables false
set_option linter.unusedSimpArgs false
/-- Block b is the reference's net: what it owns lies in F, from B on; what its messages reach may be older. -/
structure RNetAt (B : Nat) (w : World) (F : Nat → Prop) (b : Nat) (ms : List Msg) (last : Int) : Prop where
  ex : ∃ A c, w.heap[b]? = some (.cells #[.slice A ms.length c, .int .u64 last] 30 (0, 0)) ∧ kMsg.Own 54 w (fun k => k < B ∨ F k) B (.slice A ms.length c) ms
  nF : ¬ F b
  hb : B ≤ b
section
variable {B : Nat} {w w' : World} {F F' G : Nat → Prop} {b : Nat} {ms : List Msg} {last : Int}
theorem RNetAt.mono (h : RNetAt B w F b ms last) (hF : ∀ k, F k → F' k) (hb : ¬ F' b) : RNetAt B w F' b ms last := by
  obtain ⟨⟨A, c, h1, h2⟩, h3, h4⟩ := h
  exact ⟨⟨A, c, h1, Kd.Own_mono h2 fun k => Or.imp id (hF k)⟩, hb, h4⟩
theorem RNetAt.lt (h : RNetAt B w F b ms last) : b < w.heap.size := by
  obtain ⟨⟨A, c, h1, h2⟩, h3, h4⟩ := h
  exact blk_lt h1
theorem RNetAt.known (h : RNetAt B w F b ms last) : RNetAt B w (fun k => F k ∧ k < w.heap.size) b ms last := by
  obtain ⟨⟨A, c, h1, h2⟩, h3, h4⟩ := h
  refine ⟨⟨A, c, h1, Kd.Own_mono (Kd.Own_lt h2) fun k hk => ?_⟩, fun hk => h3 hk.1, h4⟩
  rcases hk.1 with h | h
  · exact .inl h
  · exact .inr ⟨h, hk.2⟩
theorem RNetAt.chg (h : RNetAt B w F b ms last) (hc : Chg w w' G) (hB : ∀ k, k < B → ¬ G k) (hF : ∀ k, F k → ¬ G k) (hb : ¬ G b) : RNetAt B w' F b ms last := by
  obtain ⟨⟨A, c, h1, h2⟩, h3, h4⟩ := h
  exact ⟨⟨A, c, hc.keeps h1 hb, Kd.Own_move (fun k hk hl => hc.block k hl (hk.elim (hB k) (hF k))) h2⟩, h3, h4⟩
theorem RNetAt.fits (h : RNetAt B w F b ms last) : ms.length ≤ 9223372036854775807 := by
  obtain ⟨⟨A, c, h1, h2⟩, h3, h4⟩ := h
  obtain ⟨_, _, hC⟩ := Own_got h2
  exact hC.2.1
end
def RPeekYes (B : Nat) (F : Nat → Prop) (x : Msg) (w : World) (e : Ending) (w' : World) : Prop := ∃ cs, e = .returned (.tuple #[.agg cs.toArray, .bool true]) ∧ kMsg.K w' (fun k => k < B ∨ F k) x cs ∧ Below w.heap.size w w'
set_option maxHeartbeats 4000000 in
set_option maxRecDepth 100000 in
theorem rpeek_yes {B : Nat} {w : World} {F : Nat → Prop} {b : Nat} {ms : List Msg} {last : Int} (h : RNetAt B w F b ms last) (n : Nat) (hi : n < ms.length) : Calls Try.prog 20 #[.pointer (some ⟨b, 0, none⟩), .int .i64 n] w (RPeekYes B F ms[n] w) := by
  have hn := h.fits
  obtain ⟨⟨A, c, h1, h2⟩, h3, h4⟩ := h
  rcases Kd.Row_of_Own h2 with ⟨h0, _⟩ | ⟨g, rfl, _, _, hFg, hR⟩
  · rw [h0] at hi; simp at hi
  obtain ⟨cs, hr, hk⟩ := hR.get hi
  have hcl := kMsg.len hk
  have f0 : ∀ o, (w.alloc o).cell? ⟨b, 0, none⟩ = some (.slice (some ⟨g, 0, none⟩) ms.length c) := fun o => (blk_cell (blk_alloc h1 o) 0).trans rfl
  have HR := Aside.mk (fun o => World.rangeAt_alloc (ob := o) hr)
  have HK := Aside.mk (kMsg.mono (fun k (hk : (k < B ∨ F k) ∧ k ≠ g) => hk.1) hk)
  have HO := Aside.mk (kMsg.one hk)
  have HL := Aside.mk hcl
  have hge : ¬ ms.length ≤ n := by omega
  clear h1 h2 h3 hR hFg hr hk hcl
  go_enter Try.func20, Try.ntmps20
  go_wp2_with (first
    | (refine wpList_load_mid rfl 54 (.tmp 23) (by rfl) g (n * 41) (by rfl) cs _ (HR.out _) Try.underlying54 rfl (j54 HL.out) ?_)
    | (refine wpList_store_mid rfl 54 (.tmp 4) (.tmp 24) (by rfl) w.heap.size 0 cs.toArray (by rfl) (by rfl) (there_blk (blk_new _ _) rfl (by rw [List.size_toArray]; exact HL.out)) (j54 (by rw [List.size_toArray]; exact HL.out)) (all_oneCell_toArray HO.out) ?_))
  have hbl : Below w.heap.size w ((w.alloc (.cells mZ 54)).setCells w.heap.size 0 cs) := below_setCells (Nat.le_refl _) _ _ _ (below_alloc (Below.refl _ _) _)
  exact bodyPost_ret (results_cell2 (p := 4) (u := 5) (ty := 54) rfl rfl rfl (stored54 (blk_new _ _) rfl HL.out)) rfl ⟨cs, rfl, Kd.below HK.out hbl, hbl⟩
set_option maxHeartbeats 4000000 in
set_option maxRecDepth 100000 in
theorem rpeek_below {w : World} (v : Option Addr) (i : Int) (hi : i < 0) : Calls Try.prog 20 #[.pointer v, .int .i64 i] w (PeekNo w) := by
  have HZ := Aside.mk (zero_blk w)
  go_enter Try.func20, Try.ntmps20
  go_wp2_with (refine wpList_store_mid rfl 54 (.tmp 4) (.tmp 17) (by rfl) w.heap.size 0 mZ (by rfl) (by rfl) (there_blk (cur := mZ) HZ.out rfl rfl) (j54 rfl) mZ_one ?_)
  exact bodyPost_ret (results_cell2 (p := 4) (u := 5) (ty := 54) rfl rfl rfl (peek_end (below_alloc (Below.refl _ _) _) HZ.out).1) rfl (peek_end (below_alloc (Below.refl _ _) _) HZ.out).2
set_option maxHeartbeats 4000000 in
set_option maxRecDepth 100000 in
theorem rpeek_above {B : Nat} {w : World} {F : Nat → Prop} {b : Nat} {ms : List Msg} {last : Int} (h : RNetAt B w F b ms last) (i : Int) (hi : (ms.length : Int) ≤ i) : Calls Try.prog 20 #[.pointer (some ⟨b, 0, none⟩), .int .i64 i] w (PeekNo w) := by
  have HZ := Aside.mk (zero_blk w)
  have hn := h.fits
  obtain ⟨⟨A, c, h1, h2⟩, h3, h4⟩ := h
  have f0 : ∀ o, (w.alloc o).cell? ⟨b, 0, none⟩ = some (.slice A ms.length c) := fun o => (blk_cell (blk_alloc h1 o) 0).trans rfl
  have h0 : ¬ i < 0 := by omega
  clear h1 h2 h3
  go_enter Try.func20, Try.ntmps20
  go_wp2_with (refine wpList_store_mid rfl 54 (.tmp 4) (.tmp 17) (by rfl) w.heap.size 0 mZ (by rfl) (by rfl) (there_blk (cur := mZ) HZ.out rfl rfl) (j54 rfl) mZ_one ?_)
  exact bodyPost_ret (results_cell2 (p := 4) (u := 5) (ty := 54) rfl rfl rfl (peek_end (below_alloc (Below.refl _ _) _) HZ.out).1) rfl (peek_end (below_alloc (Below.refl _ _) _) HZ.out).2
theorem rpeek_no {B : Nat} {w : World} {F : Nat → Prop} {b : Nat} {ms : List Msg} {last : Int} (h : RNetAt B w F b ms last) (i : Int) (hi : i < 0 ∨ (ms.length : Int) ≤ i) : Calls Try.prog 20 #[.pointer (some ⟨b, 0, none⟩), .int .i64 i] w (PeekNo w) :=
  hi.elim (rpeek_below _ i) (rpeek_above h i)
theorem rlose_below {w : World} (v : Option Addr) (i : Int) (hi : i < 0) : Calls Try.prog 16 #[.pointer v, .int .i64 i] w fun e w' => e = .returned (.bool false) ∧ w' = w := by
  go_enter Try.func16, Try.ntmps16
  go_wp2
  go_ret
  exact ⟨rfl, rfl⟩
theorem rlose_above {B : Nat} {w : World} {F : Nat → Prop} {b : Nat} {ms : List Msg} {last : Int} (h : RNetAt B w F b ms last) (i : Int) (hi : (ms.length : Int) ≤ i) : Calls Try.prog 16 #[.pointer (some ⟨b, 0, none⟩), .int .i64 i] w fun e w' => e = .returned (.bool false) ∧ w' = w := by
  have hn := h.fits
  obtain ⟨⟨A, c, h1, h2⟩, h3, h4⟩ := h
  have f0 : w.cell? ⟨b, 0, none⟩ = some (.slice A ms.length c) := (blk_cell h1 0).trans rfl
  have h0 : ¬ i < 0 := by omega
  clear h1 h2 h3
  go_enter Try.func16, Try.ntmps16
  go_wp2
  go_ret
  exact ⟨rfl, rfl⟩
theorem rlose_no {B : Nat} {w : World} {F : Nat → Prop} {b : Nat} {ms : List Msg} {last : Int} (h : RNetAt B w F b ms last) (i : Int) (hi : i < 0 ∨ (ms.length : Int) ≤ i) : Calls Try.prog 16 #[.pointer (some ⟨b, 0, none⟩), .int .i64 i] w fun e w' => e = .returned (.bool false) ∧ w' = w :=
  hi.elim (rlose_below _ i) (rlose_above h i)
theorem rtwice_below {w : World} (v : Option Addr) (i : Int) (hi : i < 0) : Calls Try.prog 18 #[.pointer v, .int .i64 i] w fun e w' => e = .returned (.bool false) ∧ w' = w := by
  go_enter Try.func18, Try.ntmps18
  go_wp2
  go_ret
  exact ⟨rfl, rfl⟩
theorem rtwice_above {B : Nat} {w : World} {F : Nat → Prop} {b : Nat} {ms : List Msg} {last : Int} (h : RNetAt B w F b ms last) (i : Int) (hi : (ms.length : Int) ≤ i) : Calls Try.prog 18 #[.pointer (some ⟨b, 0, none⟩), .int .i64 i] w fun e w' => e = .returned (.bool false) ∧ w' = w := by
  have hn := h.fits
  obtain ⟨⟨A, c, h1, h2⟩, h3, h4⟩ := h
  have f0 : w.cell? ⟨b, 0, none⟩ = some (.slice A ms.length c) := (blk_cell h1 0).trans rfl
  have h0 : ¬ i < 0 := by omega
  clear h1 h2 h3
  go_enter Try.func18, Try.ntmps18
  go_wp2
  go_ret
  exact ⟨rfl, rfl⟩
theorem rtwice_no {B : Nat} {w : World} {F : Nat → Prop} {b : Nat} {ms : List Msg} {last : Int} (h : RNetAt B w F b ms last) (i : Int) (hi : i < 0 ∨ (ms.length : Int) ≤ i) : Calls Try.prog 18 #[.pointer (some ⟨b, 0, none⟩), .int .i64 i] w fun e w' => e = .returned (.bool false) ∧ w' = w :=
  hi.elim (rtwice_below _ i) (rtwice_above h i)
end Go.Proofs.Ytjpeaeklhcnpnaa.K
