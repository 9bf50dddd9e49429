/- slices.Delete of one message by a contract; net.Lose. No condition. -/
import Derived.Test.YtjpeaeklhcnpnaaD3
import Derived.Lib.SliceRun
namespace Go.Proofs.Ytjpeaeklhcnpnaa.K
open Go.RowKit
set_option linter.unusedVariables false
set_option linter.unusedSimpArgs false
theorem zeros54 : (Builtin.zeroCells mZ 1).toList = mZ.toList := by kernel_rfl
theorem run_clear54 (w : World) (ty : TypeId) (g o c : Nat) (ht : w.there g o 41) : (Builtin.clear_ #[27] ty #[.slice (some ⟨g, o, none⟩) 1 c]).run Try.prog w = .ok (.tuple #[]) (w.setCells g o mZ.toList) := by
  have hst := run_storeCells_cells (P := Try.prog) g o mZ.toList 0 w (fun j hj => by simpa using (ht j hj).1) (fun j hj => by simpa using (ht j hj).2) (fun v hv => (Array.all_eq_true_iff_forall_mem.1 mZ_one) v (by simpa using hv))
  simp only [Nat.add_zero] at hst
  have hz : ∀ w, (zeroValue 54).run Try.prog w = .ok (.agg mZ) w := zero54
  have hzc : (Builtin.zeroCells (Value.agg mZ).cells 1).toList = mZ.toList := zeros54
  simp [Builtin.clear_, run_underlying Try.underlying27, hz, hzc, hst]
/-- What Delete leaves of a row. -/
theorem delete_row {w : World} {g c i : Nat} {ms : List Msg} {F : Nat → Nat → Prop} {vs : List Value} (h : kMsg.Row 54 w g c ms F) (hi : i < ms.length) (hF : ∀ j k, F j k → k ≠ g) (hl : vs.length = (ms.length - (i + 1)) * kMsg.sz)
    (hK : ∀ j p, (ms.drop (i + 1))[j]? = some p → kMsg.K w (F (i + 1 + j)) p ((vs.drop (j * kMsg.sz)).take kMsg.sz)) :
    kMsg.Row 54 ((w.setCells g (i * 41) vs).setCells g ((ms.length - 1) * 41) mZ.toList) g c (ms.eraseIdx i) (fun j k => (j < i → F j k) ∧ (i ≤ j → F (i + 1 + (j - i)) k)) ∧ (w.setCells g (i * 41) vs).there g ((ms.length - 1) * 41) 41 := by
  have hs : kMsg.sz = 41 := rfl
  have h1 := h.lay (i := i) (by omega) (ys := ms.drop (i + 1)) (vs := vs) (Fy := fun j => F (i + 1 + j)) (by rw [hl, List.length_drop]) (by rw [List.length_drop]; have := h.2.1; omega) hK hF (fun j => hF _)
  rw [← List.eraseIdx_eq_take_drop_succ, hs] at h1
  have hle : (ms.eraseIdx i).length = ms.length - 1 := List.length_eraseIdx_of_lt hi
  refine ⟨h1.beyond _ (by rw [hle, hs]; exact Nat.le_refl _) (fun j k hk => ?_), ?_⟩
  · rcases Nat.lt_or_ge j i with hlt | hge
    · exact hF _ k (hk.1 hlt)
    · exact hF _ k (hk.2 hge)
  · have := h1.there (i := ms.length - 1) (by have := h.2.1; omega)
    rw [hs] at this
    exact this

theorem delete_one {w : World} {i : Nat} {ms : List Msg} {F : Nat → Nat → Prop} {vs : List Value} (hl : vs.length = (ms.length - (i + 1)) * kMsg.sz)
    (hK : ∀ j p, (ms.drop (i + 1))[j]? = some p → kMsg.K w (F j) p ((vs.drop (j * kMsg.sz)).take kMsg.sz)) : ∀ u ∈ vs, u.oneCell' = true := by
  intro u hu
  obtain ⟨q, hq, rfl⟩ := List.mem_iff_getElem.1 hu
  have hs0 : 0 < kMsg.sz := by decide
  have hql : q / kMsg.sz < (ms.drop (i + 1)).length := by
    rw [Nat.div_lt_iff_lt_mul hs0, List.length_drop, ← hl]
    exact hq
  refine kMsg.one (hK (q / kMsg.sz) _ (List.getElem?_eq_getElem hql)) _ ?_
  rw [List.mem_iff_getElem?]
  refine ⟨q % kMsg.sz, ?_⟩
  rw [List.getElem?_take, if_pos (Nat.mod_lt _ hs0), List.getElem?_drop, Nat.mul_comm, Nat.div_add_mod, List.getElem?_eq_getElem hq]
theorem delete_spare {w : World} {g c i : Nat} {ms : List Msg} {F : Nat → Nat → Prop} {vs : List Value} (h : kMsg.Row 54 w g c ms F) (hl : vs.length = (ms.length - (i + 1)) * kMsg.sz) (hi : i < ms.length) :
    ∀ j, j < vs.length → (w.drew.cell? ⟨g, 0 + i * 41 + j, none⟩).isSome = true ∧ w.drew.frozen? ⟨g, 0 + i * 41 + j, none⟩ = false := by
  intro j hj
  have hs : kMsg.sz = 41 := rfl
  obtain ⟨⟨cur, h1, h1'⟩, h2, _⟩ := h
  rw [hs] at hl h1'
  have hle : ms.length * 41 ≤ c * 41 := Nat.mul_le_mul_right _ h2
  exact ⟨by show (w.cell? _).isSome = true; rw [blk_cell h1, Array.getElem?_eq_getElem (by omega)]; rfl, blk_frozen h1 _⟩
theorem delete_end {w : World} {g c i : Nat} {ms : List Msg} {F : Nat → Prop} {vs : List Value} (h : kMsg.Row 54 w g c ms (fun _ k => F k ∧ k ≠ g)) (hi : i < ms.length) (hl : vs.length = (ms.length - (i + 1)) * kMsg.sz)
    (hK : ∀ j p, (ms.drop (i + 1))[j]? = some p → kMsg.K w (fun k => F k ∧ k ≠ g) p ((vs.drop (j * kMsg.sz)).take kMsg.sz)) (hFg : F g) {W : World} (hW : W = w.drew) :
    (∀ ty c', (Builtin.clear_ #[27] ty #[.slice (some ⟨g, (ms.length - 1) * 41, none⟩) 1 c']).run Try.prog (W.setCells g (i * 41) vs) = .ok (.tuple #[]) ((W.setCells g (i * 41) vs).setCells g ((ms.length - 1) * 41) mZ.toList)) ∧
      kMsg.Own 54 ((W.setCells g (i * 41) vs).setCells g ((ms.length - 1) * 41) mZ.toList) F 0 (.slice (some ⟨g, 0, none⟩) (ms.length - 1) c) (ms.eraseIdx i) ∧ Chg w ((W.setCells g (i * 41) vs).setCells g ((ms.length - 1) * 41) mZ.toList) (fun k => (Value.slice (some ⟨g, 0, none⟩) ms.length c).ownBlock = some k) := by
  subst hW
  have hd : kMsg.Row 54 w.drew g c ms (fun _ k => F k ∧ k ≠ g) := h.move rfl (fun _ _ _ _ _ => rfl)
  obtain ⟨h1, h2⟩ := delete_row (w := w.drew) hd hi (fun j k hk => hk.2) hl (fun j p hj => kMsg.move (w := w) (w1 := w.drew) (fun _ _ _ => rfl) (hK j p hj))
  refine ⟨fun ty c' => run_clear54 _ ty g _ c' h2, ?_, ?_⟩
  · have := h1.own (base := 0) (Nat.zero_le _) hFg (fun j k hj hk => by
      rcases Nat.lt_or_ge j i with hlt | hge
      · exact hk.1 hlt
      · exact hk.2 hge)
    rw [List.length_eraseIdx_of_lt hi] at this
    exact this
  · exact Chg.sets (F := fun k => (Value.slice (some ⟨g, 0, none⟩) ms.length c).ownBlock = some k) (.inl rfl) _ _ (Chg.sets (F := fun k => (Value.slice (some ⟨g, 0, none⟩) ms.length c).ownBlock = some k) (.inl rfl) _ _ (Chg.refl w _).drew)
set_option maxHeartbeats 4000000 in
set_option maxRecDepth 100000 in
theorem delete_core {w : World} {g c i k : Nat} {vs : List Value} (hik : i ≤ k) (hkc : k + 1 ≤ c) (hc63 : c ≤ 9223372036854775807) (hl : vs.length = (k - i) * 41) (hone0 : ∀ u ∈ vs, u.oneCell' = true)
    (hsp : ∀ j, j < vs.length → (w.drew.cell? ⟨g, 0 + i * 41 + j, none⟩).isSome = true ∧ w.drew.frozen? ⟨g, 0 + i * 41 + j, none⟩ = false) (hsr : ∀ j u, vs[j]? = some u → w.drew.cell? ⟨g, (i + 1) * 41 + j, none⟩ = some u)
    (hcl0 : ∀ ty c', (Builtin.clear_ #[27] ty #[.slice (some ⟨g, k * 41, none⟩) 1 c']).run Try.prog (w.drew.setCells g (i * 41) vs) = .ok (.tuple #[]) ((w.drew.setCells g (i * 41) vs).setCells g (k * 41) mZ.toList)) :
    Calls Try.prog 36 #[.slice (some ⟨g, 0, none⟩) (k + 1) c, .int .i64 i, .int .i64 (i + 1)] w fun e w' => e = .returned (.slice (some ⟨g, 0, none⟩) k c) ∧ w' = (w.drew.setCells g (i * 41) vs).setCells g (k * 41) mZ.toList := by
  obtain ⟨i0, hi0, hzz⟩ := Option.map_eq_some_iff.1 info54
  simp only [Prod.mk.injEq] at hzz
  have hi1 : i0.size = 41 := hzz.2.1
  have hlen : Hid (vs.length = (k - i) * 41) := hl
  have hone : Hid (∀ u ∈ vs, u.oneCell' = true) := hone0
  have hspare : Hid (∀ j, j < vs.length → (w.drew.cell? ⟨g, 0 + i * 41 + j, none⟩).isSome = true ∧ w.drew.frozen? ⟨g, 0 + i * 41 + j, none⟩ = false) := hsp
  obtain ⟨W1, hW1⟩ : ∃ W1, W1 = w.drew.setCells g (i * 41) vs := ⟨_, rfl⟩
  rw [← hW1] at hcl0 ⊢
  have hW : Hid (W1 = w.drew.setCells g (0 + i * 41) vs) := by rw [Nat.zero_add]; exact hW1
  have b1 : (0 : Int) ≤ (i : Int) + 1 := by omega
  have b2 : (i : Int) + 1 ≤ (k : Int) + 1 := by omega
  have b3 : (i : Int) ≤ (i : Int) + 1 := by omega
  have b4 : (k : Int) ≤ (k : Int) + 1 := by omega
  have b5 : (k : Int) + 1 ≤ (c : Int) := by omega
  have hs : i + (k - i) = k := by omega
  have hs2 : k + 1 - k = 1 := by omega
  by_cases hci : c = i + 1
  · have hki : k = i := by omega
    subst hki hci
    have hsrc : Hid (∀ j u, vs[j]? = some u → w.drew.cell? ((⟨g, 0, none⟩ : Addr).add j) = some u) := fun j u hu => by
      have h0 : vs.length = 0 := by rw [hl, Nat.sub_self, Nat.zero_mul]
      rw [List.length_eq_zero_iff.1 h0] at hu
      simp at hu
    rw [Nat.sub_self] at hlen
    clear hzz hl hone0 hsp hsr hs hW1
    go_enter Try.func36, Try.ntmps36
    go_wp2_with fail
    go_region_law (refine step_append_room rfl (.tmp 22) (.tmp 25) 27 rfl 54 i0 41 Try.underlying27 hi0 hi1 g 0 k (k + 1) (by simp [Act.eval, Act.put]) ⟨g, 0, none⟩ 0 0 vs (by simp [Act.eval, Act.put]) hlen.out hsrc.out hone.out (by omega) hspare.out ?_; rw [← hW.out])
    go_wp2
    go_ret
    exact ⟨rfl, rfl⟩
  · have hsrc : Hid (∀ j u, vs[j]? = some u → w.drew.cell? ((⟨g, (i + 1) * 41, none⟩ : Addr).add j) = some u) := fun j u hu => by
      rw [Addr.add_mid]; exact hsr j u hu
    have hic : i ≤ c := by omega
    have hjc : i + 1 ≤ c := by omega
    have hkc2 : k ≤ c := by omega
    have hck : ¬ c = k := by omega
    clear hzz hl hone0 hsp hsr hW1
    go_enter Try.func36, Try.ntmps36
    go_wp2_with fail
    go_region_law (refine step_append_room rfl (.tmp 22) (.tmp 25) 27 rfl 54 i0 41 Try.underlying27 hi0 hi1 g 0 i c (by simp [Act.eval, Act.put]) ⟨g, (i + 1) * 41, none⟩ (k - i) (c - (i + 1)) vs (by simp [Act.eval, Act.put]) hlen.out hsrc.out hone.out (by omega) hspare.out ?_; rw [← hW.out])
    go_wp2
    go_ret
    exact ⟨rfl, rfl⟩
theorem delete_any {w : World} {F : Nat → Prop} {A : Option Addr} {c : Nat} {ms : List Msg} (h : kMsg.Own 54 w F 0 (.slice A ms.length c) ms) (i : Nat) (hi : i < ms.length) :
    Calls Try.prog 36 #[.slice A ms.length c, .int .i64 i, .int .i64 (i + 1)] w fun e w' => ∃ A' c', e = .returned (.slice A' (ms.length - 1) c') ∧ kMsg.Own 54 w' F 0 (.slice A' (ms.length - 1) c') (ms.eraseIdx i) ∧ Chg w w' (fun k => (Value.slice A ms.length c).ownBlock = some k) := by
  rcases Kd.Row_of_Own h with ⟨h0, _⟩ | ⟨g, rfl, _, _, hFg, hR⟩
  · rw [h0] at hi; simp at hi
  obtain ⟨vs, hvl, hvr, hvk⟩ := hR.tail (i + 1)
  obtain ⟨hcl, hown, hchg⟩ := delete_end hR hi hvl hvk hFg rfl
  have hn := hR.2.1
  have hn2 := hR.2.2.1
  simp only [maxLen] at hn2
  have hsp := delete_spare hR hvl hi
  have hone := delete_one hvl hvk
  obtain ⟨k, hk⟩ : ∃ k, ms.length = k + 1 := ⟨ms.length - 1, by omega⟩
  have hs : kMsg.sz = 41 := rfl
  rw [hs] at hvl hvr
  rw [hk] at hvl hcl hown hchg hn ⊢
  rw [Nat.add_sub_cancel] at hcl hown hchg ⊢
  refine (delete_core (w := w) (g := g) (c := c) (i := i) (k := k) (vs := vs) (by omega) hn (by omega) (by rw [hvl]; congr 1; omega) hone hsp hvr hcl).mono ?_
  rintro e w' ⟨rfl, rfl⟩
  exact ⟨_, c, rfl, hown, hchg⟩

theorem lose_below {w : World} (v : Option Addr) (i : Int) (hi : i < 0) : Calls Try.prog 15 #[.pointer v, .int .i64 i] w fun e w' => e = .returned (.bool false) ∧ w' = w := by
  go_enter Try.func15, Try.ntmps15
  go_wp2
  go_ret
  exact ⟨rfl, rfl⟩
theorem lose_nil {w : World} (i : Int) : Calls Try.prog 15 #[.pointer none, .int .i64 i] w fun e w' => e = .returned (.bool false) ∧ w' = w := by
  by_cases hi : i < 0
  · exact lose_below none i hi
  · go_enter Try.func15, Try.ntmps15
    go_wp2_with (go_at_call 22; refine (waiting_nil _).mono ?_; rintro e w' ⟨rfl, rfl⟩)
    go_ret
    exact ⟨rfl, rfl⟩
theorem lose_above {w : World} {F : Nat → Prop} {b : Nat} {ms : List Msg} {last : Int} (h : NetAt w F b ms last) (i : Int) (hi : (ms.length : Int) ≤ i) : Calls Try.prog 15 #[.pointer (some ⟨b, 0, none⟩), .int .i64 i] w fun e w' => e = .returned (.bool false) ∧ w' = w := by
  have HW := Aside.mk (waiting_any h)
  have h0 : ¬ i < 0 := by omega
  clear h
  go_enter Try.func15, Try.ntmps15
  go_wp2_with (go_at_call 22; refine (HW.out).mono ?_; rintro e w' ⟨rfl, rfl⟩)
  go_ret
  exact ⟨rfl, rfl⟩
theorem lose_no {w : World} {F : Nat → Prop} {b : Nat} {ms : List Msg} {last : Int} (h : NetAt w F b ms last) (i : Int) (hi : i < 0 ∨ (ms.length : Int) ≤ i) : Calls Try.prog 15 #[.pointer (some ⟨b, 0, none⟩), .int .i64 i] w fun e w' => e = .returned (.bool false) ∧ w' = w :=
  hi.elim (lose_below _ i) (lose_above h i)
theorem lose_end {w w3 : World} {F : Nat → Prop} {b n : Nat} {A A3 : Option Addr} {c c3 : Nat} {ms ms' : List Msg} {last : Int} (h1 : w.heap[b]? = some (.cells #[.slice A n c, .int .u64 last] 88 (0, 0))) (h2 : kMsg.Own 54 w F 0 (.slice A n c) ms) (hb : ¬ F b)
    (hO : kMsg.Own 54 w3 F 0 (.slice A3 ms'.length c3) ms') (hc : Chg w w3 (fun k => (Value.slice A n c).ownBlock = some k)) : NetAt (w3.setCell ⟨b, 0, none⟩ (.slice A3 ms'.length c3)) F b ms' last ∧ Chg w (w3.setCell ⟨b, 0, none⟩ (.slice A3 ms'.length c3)) (fun k => F k ∨ k = b) := by
  have h3 := hc.keeps h1 (fun e => hb (h2.1 b e))
  refine ⟨⟨A3, c3, blk_set h3 0 _, Own_set hO _ (fun k hk e => hb (by have e : k = b := e; rw [← e]; exact hk)), hb⟩, ?_⟩
  exact (hc.mono (fun k _ hk => .inl (h2.1 k hk))).set (a := ⟨b, 0, none⟩) (.inl (.inr rfl)) _
set_option maxHeartbeats 1000000 in
theorem lose_yes {w : World} {F : Nat → Prop} {b : Nat} {ms : List Msg} {last : Int} (h : NetAt w F b ms last) (i : Nat) (hi : i < ms.length) :
    Calls Try.prog 15 #[.pointer (some ⟨b, 0, none⟩), .int .i64 i] w fun e w' => e = .returned (.bool true) ∧ NetAt w' F b (ms.eraseIdx i) last ∧ Chg w w' (fun k => F k ∨ k = b) := by
  have hn := h.fits
  have HW := Aside.mk (waiting_any h)
  obtain ⟨A, c, h1, h2, h3⟩ := h
  have HD := Aside.mk (delete_any h2 i hi)
  have f0 : w.cell? ⟨b, 0, none⟩ = some (.slice A ms.length c) := (blk_cell h1 0).trans rfl
  have HH := Aside.mk (And.intro h1 (And.intro h2 h3))
  have hlt : ¬ ms.length ≤ i := by omega
  clear h1 h2 h3
  go_enter Try.func15, Try.ntmps15
  go_wp2_with (first
    | (go_at_call 22; refine (HW.out).mono ?_; rintro e w' ⟨rfl, rfl⟩)
    | (go_at_call 36; refine (HD.out).mono ?_; rintro e w3 ⟨A3, c3, rfl, hO, hc⟩; have HO := Aside.mk hO; have HC := Aside.mk hc; have hb3 := hc.keeps HH.out.1 (fun e => HH.out.2.2 (HH.out.2.1.1 b e)); have f0 := (blk_cell hb3 0).trans rfl; have g0 := blk_frozen hb3 0; clear hO hc hb3))
  go_ret
  have hle : ms.length - 1 = (ms.eraseIdx i).length := (List.length_eraseIdx_of_lt hi).symm
  have hO := HO.out
  rw [hle] at hO ⊢
  exact ⟨rfl, lose_end HH.out.1 HH.out.2.1 HH.out.2.2 hO HC.out⟩
end Go.Proofs.Ytjpeaeklhcnpnaa.K
