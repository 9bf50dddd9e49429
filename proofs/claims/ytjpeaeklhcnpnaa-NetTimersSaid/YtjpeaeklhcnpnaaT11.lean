/- The reference's Stop and Set of timers by contracts. No condition but that the timers are few. -/
import Derived.Test.YtjpeaeklhcnpnaaT10
namespace Go.Proofs.Ytjpeaeklhcnpnaa.K
open Go.RowKit
set_option linter.unusedVariables false
set_option linter.unusedSimpArgs false
theorem stLoop_start (w : World) (L : List (Int × Int)) (id : Int) : StLoop w L id 0 (.slice none 0 0) w := ⟨Kd.Own_nil _ _ _ _ _, Below.refl _ _⟩
theorem stop_end {w wr : World} {F : Nat → Prop} {b : Nat} {L : List (Int × Int)} {id : Int} {A5 : Option Addr} {n5 c5 : Nat} (h : RTimAt w F b L) (hL : StLoop w L id L.length (.slice A5 n5 c5) wr) :
    RTimAt (wr.setCell ⟨b, 0, none⟩ (.slice A5 n5 c5)) (fun k => w.heap.size ≤ k) b (flt L id) ∧ Chg w (wr.setCell ⟨b, 0, none⟩ (.slice A5 n5 c5)) (fun k => k = b) := by
  obtain ⟨A, c, h1, h2, h3⟩ := h
  have hb := blk_lt h1
  have ho := hL.own
  rw [List.take_length] at ho
  obtain ⟨A', c', e, hl, hC⟩ := Kd.Own_C ho
  injection e with e1 e2 e3
  subst e1 e2 e3
  have h1' : wr.heap[b]? = some (.cells #[.slice A L.length c] 86 (0, 0)) := (hL.below.block b hb).trans h1
  refine ⟨⟨_, _, blk_set h1' 0 _, Own_set ho _ (fun k hk => by show k ≠ b; omega), by omega⟩, ?_⟩
  exact Chg.set (a := ⟨b, 0, none⟩) (Chg.of_below hL.below (fun k => k = b)) (.inl rfl) _
set_option maxHeartbeats 4000000 in
set_option maxRecDepth 100000 in
theorem rstop_any {w : World} {F : Nat → Prop} {b : Nat} {L : List (Int × Int)} {id : Int} (hL : L.length ≤ 100000) (h : RTimAt w F b L) (hi : (Lit.int .u64 id).wf = true) :
    Calls Try.prog 32 #[.pointer (some ⟨b, 0, none⟩), .int .u64 id] w fun e w' => e = .returned (.bool (hasId L id)) ∧ RTimAt w' (fun k => w.heap.size ≤ k) b (flt L id) ∧ Chg w w' (fun k => k = b) := by
  have HH := Aside.mk h
  obtain ⟨A, c, h1, h2, h3⟩ := h
  have k0 : w.cell? ⟨b, 0, none⟩ = some (.slice A L.length c) := (blk_cell h1 0).trans rfl
  have g0 : w.frozen? ⟨b, 0, none⟩ = false := blk_frozen h1 0
  have hbl := blk_lt h1
  have HA : Aside (∀ k (hk : k < L.length), ∃ g, A = some ⟨g, 0, none⟩ ∧ g < w.heap.size ∧ w.cell? ⟨g, k * 2, none⟩ = some (.int .u64 L[k].1) ∧ w.cell? ⟨g, k * 2 + 1, none⟩ = some (.int .i64 L[k].2) ∧ (Lit.int .u64 L[k].1).wf = true ∧ (Lit.int .i64 L[k].2).wf = true) := ⟨by
    intro k hk
    rcases Kd.Row_of_Own h2 with ⟨h0, _⟩ | ⟨g, rfl, _, _, hg, hR⟩
    · rw [h0] at hk; simp at hk
    · obtain ⟨cs, hr, hK⟩ := hR.get hk
      obtain ⟨rfl, hw1, hw2⟩ := kTim_open hK
      have h5 : w.cell? ⟨g, k * 2, none⟩ = some (.int .u64 L[k].1) := hr 0 _ rfl
      exact ⟨g, rfl, cell_lt h5, h5, hr 1 _ rfl, hw1, hw2⟩⟩
  clear h1 h2 h3
  go_enter Try.func32, Try.ntmps32
  go_wp2
  go_loopw [5, 6, 7] (fun v5 v6 v7 wr => ∃ (i : Nat) (A5 : Option Addr) (n5 c5 : Nat) (t : Bool), i ≤ L.length ∧ v5 = .slice A5 n5 c5 ∧ v6 = .bool t ∧ v7 = .int .i64 i ∧ Aside (t = hasId (L.take i) id) ∧ Aside (StLoop w L id i (.slice A5 n5 c5) wr)) (fun v5 v6 v7 _ => L.length - (intOf v7).toNat)
  case atStart => exact ⟨0, none, 0, 0, false, Nat.zero_le _, rfl, rfl, rfl, ⟨rfl⟩, ⟨stLoop_start w L id⟩⟩
  case round =>
    obtain ⟨i, A5, n5, c5, t, hiL, rfl, rfl, rfl, HT, HS⟩ := hrel
    have k0' : wr.cell? ⟨b, 0, none⟩ = some (.slice A L.length c) := (World.cell?_of_block (a := ⟨b, 0, none⟩) (HS.out.below.block b hbl)).trans k0
    have g0' : wr.frozen? ⟨b, 0, none⟩ = false := by
      obtain ⟨A', c', h1, _⟩ := HH.out
      exact blk_frozen ((HS.out.below.block b hbl).trans h1) 0
    by_cases hlt : i < L.length
    · obtain ⟨g, rfl, hg, f1, f2, hw1, hw2⟩ := HA.out i hlt
      have f1 : wr.cell? ⟨g, i * 2, none⟩ = some (.int .u64 L[i].1) := (World.cell?_of_block (a := ⟨g, i * 2, none⟩) (HS.out.below.block g hg)).trans f1
      have f2 : wr.cell? ⟨g, i * 2 + 1, none⟩ = some (.int .i64 L[i].2) := (World.cell?_of_block (a := ⟨g, i * 2 + 1, none⟩) (HS.out.below.block g hg)).trans f2
      obtain ⟨y, hy⟩ : ∃ y, L[i] = y := ⟨_, rfl⟩
      rw [hy] at f1 f2 hw1 hw2
      have HY := Aside.mk hy
      clear hy
      obtain ⟨x, u⟩ := y
      by_cases hx : x = id
      · subst hx
        have HS' := Aside.mk (stLoop_skip HS.out hlt (by rw [HY.out]))
        have HT' : Aside (true = hasId (L.take (i + 1)) x) := ⟨by rw [hasId_step hlt, HY.out]; simp⟩
        clear hw1 hw2
        go_wp2
        go_round
        case rel => exact ⟨i + 1, A5, n5, c5, true, by omega, rfl, rfl, rfl, HT', HS'⟩
        case measure => simp only [intOf]; omega
      · have hx' : (x == id) = false := by simpa using hx
        have HT' : Aside (t = hasId (L.take (i + 1)) id) := ⟨by rw [hasId_step hlt, HY.out, HT.out]; simp [hx]⟩
        have HP := Aside.mk (tPre (x, u) HS.out.own hw1 hw2)
        have hlen : Aside (((flt (L.take i) id).length + 1) * 16 ≤ 140737488355328) := ⟨by have h1 := flt_len (L.take i) id; rw [List.length_take] at h1; omega⟩
        have HN : Aside (L[i].1 ≠ id) := ⟨by rw [HY.out]; exact hx⟩
        clear hw1 hw2
        go_wp2_with (refine wpList_append_row kTim 0 rfl (.tmp 27) (.tmp 35) 84 113 (.agg #[.int .u64 0, .int .i64 0]) 16 rfl und84 info113 rfl (Nat.zero_lt_succ 1) (Nat.zero_lt_succ 15) (.slice A5 n5 c5) (flt (L.take i) id) [(x, u)] ⟨wr.heap.size, 0, none⟩ 1 1 (fun k => w.heap.size ≤ k ∨ wr.heap.size ≤ k) (fun k => wr.heap.size ≤ k) (by rfl) (by rfl) ?a1 ?a2 ?a3 ?a4 ?a5 ?a6 ?a7; exact HP.out.own; exact HP.out.row; exact HP.out.far; exact HP.out.fresh; exact (Nat.zero_le _); exact hlen.out; (intro v1 w7 hO hgr _); obtain ⟨A7, n7, c7, rfl⟩ : ∃ A7 n7 c7, v1 = .slice A7 n7 c7 := (by obtain ⟨A7, c7, e, _⟩ := Kd.Own_C hO; exact ⟨_, _, _, e⟩); have HS' := Aside.mk (stLoop_add HS.out hlt HN.out HY.out HP.out hO hgr); clear hO hgr)
        go_round
        case rel => exact ⟨i + 1, A7, n7, c7, t, by omega, rfl, rfl, rfl, HT', HS'⟩
        case measure => simp only [intOf]; omega
    · obtain rfl : i = L.length := by omega
      have HE := Aside.mk (stop_end HH.out HS.out)
      obtain rfl : t = hasId L id := by rw [HT.out, List.take_length]
      go_wp2
      go_ret
      exact ⟨rfl, HE.out⟩
theorem rset_end {w w7 : World} {F : Nat → Prop} {b : Nat} {A : Option Addr} {c : Nat} {L : List (Int × Int)} {y : Int × Int} {v1 : Value} (hb : ¬ F b) (h1 : w.heap[b]? = some (.cells #[.slice A L.length c] 86 (0, 0))) (hP : TPre w F (.slice A L.length c) L y)
    (hO : kTim.Own 113 w7 (fun k => F k ∨ w.heap.size ≤ k) 0 v1 (L ++ [y])) (hg : (w.alloc (.cells #[.int .u64 y.1, .int .i64 y.2] 113)).grownBy w7 (Value.slice A L.length c).ownBlock) :
    w7.heap[b]? = some (.cells #[.slice A L.length c] 86 (0, 0)) ∧ RTimAt (w7.setCell ⟨b, 0, none⟩ v1) (fun k => F k ∨ w.heap.size ≤ k) b (L ++ [y]) ∧ Chg w (w7.setCell ⟨b, 0, none⟩ v1) (fun k => F k ∨ k = b) := by
  have hbl := blk_lt h1
  have hne : ∀ k, (F k ∨ w.heap.size ≤ k) → k ≠ b := by
    rintro k hk rfl
    rcases hk with hk | hk
    · exact hb hk
    · omega
  obtain ⟨A', c', rfl, hl, hC⟩ := Kd.Own_C hO
  have h7 : w7.heap[b]? = some (.cells #[.slice A L.length c] 86 (0, 0)) := by
    rw [hg.block b (by simp; omega) (fun e => hb (hP.rowF b e.symm).1)]
    exact blk_alloc h1 _
  refine ⟨h7, ⟨A', c', blk_set h7 0 _, Own_set hO _ hne, fun h => hne b h rfl⟩, ?_⟩
  exact Chg.set (a := ⟨b, 0, none⟩) (Chg.grown ((Chg.refl w (fun k => F k ∨ k = b)).alloc _) hg (fun k hk => .inl (.inl (hP.rowF k hk).1))) (.inl (.inr rfl)) _
set_option maxHeartbeats 4000000 in
set_option maxRecDepth 100000 in
theorem rset_any {w : World} {F : Nat → Prop} {b : Nat} {L : List (Int × Int)} {id at_ : Int} (hL : L.length ≤ 100000) (h : RTimAt w F b L) (hi : (Lit.int .u64 id).wf = true) (ha : (Lit.int .i64 at_).wf = true) :
    Calls Try.prog 31 #[.pointer (some ⟨b, 0, none⟩), .int .u64 id, .int .i64 at_] w fun e w' => e = .returned (.tuple #[]) ∧ RTimAt w' (fun k => w.heap.size ≤ k) b (flt L id ++ [(id, at_)]) ∧ Chg w w' (fun k => k = b) := by
  have hbl := h.lt
  have hl2 := flt_len L id
  have HS := Aside.mk (rstop_any hL h hi)
  have HI := Aside.mk (And.intro hi ha)
  have hlen : Aside (((flt L id).length + 1) * 16 ≤ 140737488355328) := ⟨by omega⟩
  clear h hi ha hL hl2
  go_enter Try.func31, Try.ntmps31
  go_wp2_with fail
  refine HS.out.mono ?_
  rintro e w1 ⟨rfl, h1, hc1⟩
  have HC := Aside.mk hc1
  obtain ⟨A, c, h2, h3, h4⟩ := h1
  have HP := Aside.mk (tPre (id, at_) h3 HI.out.1 HI.out.2)
  have H2 := Aside.mk (And.intro h2 h4)
  have k0 : w1.cell? ⟨b, 0, none⟩ = some (.slice A (flt L id).length c) := (blk_cell h2 0).trans rfl
  clear h2 h3 h4 hc1
  go_wp2_with (refine wpList_append_row kTim 0 rfl (.tmp 13) (.tmp 17) 84 113 (.agg #[.int .u64 0, .int .i64 0]) 16 rfl und84 info113 rfl (Nat.zero_lt_succ 1) (Nat.zero_lt_succ 15) (.slice A (flt L id).length c) (flt L id) [(id, at_)] ⟨w1.heap.size, 0, none⟩ 1 1 (fun k => w.heap.size ≤ k ∨ w1.heap.size ≤ k) (fun k => w1.heap.size ≤ k) (by rfl) (by rfl) ?a1 ?a2 ?a3 ?a4 ?a5 ?a6 ?a7; exact HP.out.own; exact HP.out.row; exact HP.out.far; exact HP.out.fresh; exact (Nat.zero_le _); exact hlen.out; (intro v1 w7 hO hgr _); obtain ⟨A7, n7, c7, rfl⟩ : ∃ A7 n7 c7, v1 = .slice A7 n7 c7 := (by obtain ⟨A7, c7, e, _⟩ := Kd.Own_C hO; exact ⟨_, _, _, e⟩); have HE := Aside.mk (rset_end H2.out.2 H2.out.1 HP.out hO hgr); have f1 : w7.cell? ⟨b, 0, none⟩ = some (.slice A (flt L id).length c) := (blk_cell HE.out.1 0).trans rfl; have g1 : w7.frozen? ⟨b, 0, none⟩ = false := blk_frozen HE.out.1 0; clear hO hgr)
  have hs := HC.out.size
  exact bodyPost_end (results_none rfl _ _ _) rfl ⟨rfl, HE.out.2.1.mono (fun k hk => by rcases hk with hk | hk <;> omega) (by omega), HC.out.then_ HE.out.2.2 (fun k hk e => by rcases e with e | e; (have : w.heap.size ≤ k := e; omega); exact e)⟩
end Go.Proofs.Ytjpeaeklhcnpnaa.K
