/- The reference's Lose by a contract. No condition but small numbers. -/
import Derived.Test.YtjpeaeklhcnpnaaE11
namespace Go.Proofs.Ytjpeaeklhcnpnaa.K
open Go.RowKit
set_option linter.unusedVariables false
set_option linter.unusedSimpArgs false
theorem Kd.Row_dropC {α : Type} {d : Kd α} {e : TypeId} {w : World} {g cap : Nat} {xs : List α} {F : Nat → Nat → Prop} (h : d.Row e w g cap xs F) {F0 : Nat → Prop} (hg : F0 g) (hF : ∀ j k, j < xs.length → F j k → F0 k) (i o : Nat) (ho : xs.drop i = [] ∨ o = i * d.sz) : d.C w F0 (some ⟨g, o, none⟩) (xs.length - i) (xs.drop i) := by
  have hl := h.lt
  obtain ⟨h1, h2, h3, h4⟩ := h
  refine ⟨by rw [List.length_drop], by simp only [maxLen] at h3; omega, fun hn => ⟨_, rfl, hg, hl, fun j p hj => ?_⟩⟩
  rcases ho with ho | rfl
  · rw [ho] at hj; simp at hj
  rw [List.getElem?_drop] at hj
  obtain ⟨cs, hr, hk⟩ := h4 _ p hj
  refine ⟨cs, d.mono (fun k => hF _ k (List.getElem?_eq_some_iff.1 hj).1) hk, fun m u hu => ?_⟩
  have h5 := hr m u hu
  have e : i * d.sz + (j * d.sz + m) = (i + j) * d.sz + m := by rw [Nat.add_mul]; omega
  rw [Addr.add_mid, e]
  exact h5
/-- What the first append of Lose wants. -/
structure LPre (B : Nat) (w : World) (F : Nat → Prop) (g i : Nat) (ms : List Msg) : Prop where
  own : kMsg.Own 54 w (fun k => k < B ∨ (F k ∨ w.heap.size ≤ k)) B (.slice none 0 0) []
  row : kMsg.C w (fun k => k < B ∨ (F k ∧ k < w.heap.size)) (some ⟨g, 0, none⟩) i (ms.take i)
  far : ∀ k, (k < B ∨ (F k ∧ k < w.heap.size)) → k < w.heap.size → (k < B ∨ (F k ∨ w.heap.size ≤ k)) ∧ some k ≠ (Value.slice none 0 0).ownBlock
  fresh : ∀ k, w.heap.size ≤ k → (k < B ∨ (F k ∨ w.heap.size ≤ k))
theorem lPre {B : Nat} {w : World} {F : Nat → Prop} {g c i : Nat} {ms : List Msg} (hR : kMsg.Row 54 w g c ms (fun _ k => (k < B ∨ F k) ∧ k ≠ g)) (hi : i < ms.length) (hFg : g < B ∨ F g) : LPre B w F g i ms := by
  have hl := hR.lt
  refine ⟨Kd.Own_nil _ _ _ _ _, ?_, fun k hk hl => ⟨hk.imp id (fun h => .inl h.1), by simp [Value.ownBlock]⟩, fun k hk => .inr (.inr hk)⟩
  have h1 := ((hR.known).cut i).C (F0 := fun k => k < B ∨ (F k ∧ k < w.heap.size)) (hFg.imp id (fun h => ⟨h, hl⟩)) (fun j k hj hk => hk.1.1.imp id (fun h => ⟨h, hk.2⟩))
  rw [List.length_take, Nat.min_eq_left (Nat.le_of_lt hi)] at h1
  exact h1
/-- And the second one. -/
structure LPre2 (B : Nat) (w w1 : World) (F : Nat → Prop) (g i o m : Nat) (v1 : Value) (ms : List Msg) : Prop where
  row : kMsg.C w1 (fun k => k < B ∨ (F k ∧ k < w.heap.size)) (some ⟨g, o, none⟩) m (ms.drop (i + 1))
  far : ∀ k, (k < B ∨ (F k ∧ k < w.heap.size)) → k < w1.heap.size → (k < B ∨ (F k ∨ w.heap.size ≤ k)) ∧ some k ≠ v1.ownBlock
  fresh : ∀ k, w1.heap.size ≤ k → (k < B ∨ (F k ∨ w.heap.size ≤ k))
  size : w.heap.size ≤ w1.heap.size
  chg : Chg w w1 NoF
  base : B ≤ w1.heap.size
theorem lPre2 {B : Nat} {w w1 : World} {F : Nat → Prop} {g c i o m : Nat} {v1 : Value} {ms : List Msg} (hR : kMsg.Row 54 w g c ms (fun _ k => (k < B ∨ F k) ∧ k ≠ g)) (hFg : g < B ∨ F g) (ho : ms.drop (i + 1) = [] ∨ o = (i + 1) * 41) (hB : B ≤ w.heap.size)
    (hg : w.grownBy w1 (Value.slice none 0 0).ownBlock) (hat : v1.ownBlock = (Value.slice none 0 0).ownBlock ∨ ∃ b, v1.ownBlock = some b ∧ w.heap.size ≤ b) (hm : ms.length - (i + 1) = m) : LPre2 B w w1 F g i o m v1 ms := by
  subst hm
  have hc : Chg w w1 NoF := (Chg.refl w NoF).grown hg (fun b hb => by simp [Value.ownBlock] at hb)
  have hl := hR.lt
  have hs := hc.size
  refine ⟨?_, fun k hk hkl => ⟨hk.imp id (fun h => .inl h.1), fun he => ?_⟩, fun k hk => .inr (.inr (by omega)), hs, hc, by omega⟩
  · have hR1 : kMsg.Row 54 w1 g c ms (fun _ k => ((k < B ∨ F k) ∧ k ≠ g) ∧ k < w.heap.size) := hR.known.move (hc.block g hl (fun h => h)) (fun j k hj hk hkl => hc.block k hkl (fun h => h))
    exact Kd.Row_dropC hR1 (hFg.imp id (fun h => ⟨h, hl⟩)) (fun j k hj hk => hk.1.1.imp id (fun h => ⟨h, hk.2⟩)) (i + 1) o ho
  · rcases hat with hat | ⟨b, hat, hb⟩
    · rw [hat] at he; simp [Value.ownBlock] at he
    · rw [hat] at he
      injection he with he
      subst he
      rcases hk with hk | hk
      · omega
      · have := hk.2; omega
theorem rlose_end {B : Nat} {w w1 w2 : World} {F : Nat → Prop} {b n c : Nat} {A : Option Addr} {v1 v2 : Value} {ms' : List Msg} {last : Int} (h1 : w.heap[b]? = some (.cells #[.slice A n c, .int .u64 last] 30 (0, 0))) (hb : ¬ F b ∧ B ≤ b) (hc : Chg w w1 NoF)
    (hat : v1.ownBlock = (Value.slice none 0 0).ownBlock ∨ ∃ b, v1.ownBlock = some b ∧ w.heap.size ≤ b) (hg : w1.grownBy w2 v1.ownBlock) (hO : kMsg.Own 54 w2 (fun k => k < B ∨ (F k ∨ w.heap.size ≤ k)) B v2 ms') :
    w2.heap[b]? = some (.cells #[.slice A n c, .int .u64 last] 30 (0, 0)) ∧ (∃ A2 c2, v2 = .slice A2 ms'.length c2) ∧ RNetAt B (w2.setCell ⟨b, 0, none⟩ v2) (fun k => F k ∨ w.heap.size ≤ k) b ms' last ∧ Chg w (w2.setCell ⟨b, 0, none⟩ v2) (fun k => k = b) := by
  have hbl := blk_lt h1
  have hc2 : Chg w w2 NoF := hc.grown hg (fun k hk => by
    rcases hat with hat | ⟨q, hat, hq⟩
    · rw [hat] at hk; simp [Value.ownBlock] at hk
    · rw [hat] at hk; injection hk with hk; subst hk; exact .inr hq)
  have h2 := hc2.keeps h1 (fun h => h)
  obtain ⟨A2, c2, rfl, _, _⟩ := Kd.Own_C hO
  have hne : ∀ k, (k < B ∨ (F k ∨ w.heap.size ≤ k)) → k ≠ b := by
    rintro k hk rfl
    rcases hk with hk | hk | hk
    · have := hb.2; omega
    · exact hb.1 hk
    · omega
  refine ⟨h2, ⟨_, _, rfl⟩, ⟨⟨A2, c2, blk_set h2 0 _, Own_set hO _ hne⟩, fun h => hne b (.inr h) rfl, hb.2⟩, ?_⟩
  exact (hc2.mono (G := fun k => k = b) (fun _ _ h => h.elim)).set (a := ⟨b, 0, none⟩) (.inl rfl) _
set_option maxHeartbeats 4000000 in
set_option maxRecDepth 100000 in
theorem rlose_core {B : Nat} {w : World} {F : Nat → Prop} {b g c n : Nat} {ms : List Msg} {last : Int} (h1 : w.heap[b]? = some (.cells #[.slice (some ⟨g, 0, none⟩) n c, .int .u64 last] 30 (0, 0))) (h3 : ¬ F b) (h4 : B ≤ b) (hR : kMsg.Row 54 w g c ms (fun _ k => (k < B ∨ F k) ∧ k ≠ g)) (hFg : g < B ∨ F g) (i : Nat) (hi : i < n) (hn : ms.length = n) (hm : n * 456 ≤ 140737488355328) :
    Calls Try.prog 16 #[.pointer (some ⟨b, 0, none⟩), .int .i64 i] w fun e w' => e = .returned (.bool true) ∧ RNetAt B w' (fun k => F k ∨ w.heap.size ≤ k) b (ms.eraseIdx i) last ∧ Chg w w' (fun k => k = b) := by
  have hbl := blk_lt h1
  have f0 : w.cell? ⟨b, 0, none⟩ = some (.slice (some ⟨g, 0, none⟩) n c) := (blk_cell h1 0).trans rfl
  have hge : ¬ n ≤ i := by omega
  have hnc := hR.2.1
  have hc2 := hR.2.2.1
  simp only [maxLen] at hc2
  rw [hn] at hnc
  have HH := Aside.mk (And.intro h1 (And.intro h3 h4))
  have HP := Aside.mk (lPre hR (by rw [hn]; exact hi) hFg)
  have HN := Aside.mk hn
  have HR := Aside.mk (And.intro hR hFg)
  have HBw := Aside.mk (show B ≤ w.heap.size by omega)
  have b0 : (0 : Int) ≤ (i : Int) := by omega
  have b1 : (0 : Int) ≤ (i : Int) + 1 := by omega
  have b2 : (i : Int) + 1 ≤ (n : Int) := by omega
  have b3 : (i : Int) ≤ (c : Int) := by omega
  have b4 : (n : Int) ≤ (c : Int) := by omega
  have b5 : i ≤ c := by omega
  have b6 : i + 1 ≤ c := by omega
  have b7 : (i : Int) + 1 ≤ (c : Int) := by omega
  have HM1 := Aside.mk (show (([] : List Msg).length + i) * 456 ≤ 140737488355328 by rw [List.length_nil]; omega)
  have HD := Aside.mk (fun (h : n = i + 1) => (show ms.drop (i + 1) = [] by rw [List.drop_eq_nil_iff]; omega))
  clear h1 h3 hR hFg hn
  by_cases hci : c = i + 1
  · obtain rfl : n = i + 1 := by omega
    subst hci
    have HM2 := Aside.mk (show ((ms.take i).length + 0) * 456 ≤ 140737488355328 by rw [List.length_take, HN.out]; omega)
    go_enter Try.func16, Try.ntmps16
    go_wp2_with (first
      | (refine wpList_append_row kMsg B rfl (.tmp 17) (.tmp 23) 27 54 (.agg mZ) 456 rfl Try.underlying27 info54 rfl (by decide) (by decide) (.slice none 0 0) [] (ms.take i) ⟨g, 0, none⟩ i _ (fun k => k < B ∨ (F k ∨ w.heap.size ≤ k)) (fun k => k < B ∨ (F k ∧ k < w.heap.size)) (by rfl) (by rfl) HP.out.own HP.out.row HP.out.far HP.out.fresh HBw.out HM1.out ?_; intro v1 w1 hO1 hg1 hat1; rw [List.nil_append] at hO1; obtain ⟨A1, n1, c1, rfl⟩ : ∃ A7 n7 c7, v1 = .slice A7 n7 c7 := (by obtain ⟨A7, c7, e, _⟩ := Kd.Own_C hO1; exact ⟨_, _, _, e⟩); have HP2 := Aside.mk (lPre2 (i := i) (o := 0) (m := 0) HR.out.1 HR.out.2 (.inl (HD.out rfl)) HBw.out hg1 hat1 (by have := HN.out; omega)); have f0 : w1.cell? ⟨b, 0, none⟩ = some (.slice (some ⟨g, 0, none⟩) (i + 1) (i + 1)) := (blk_cell (HP2.out.chg.keeps HH.out.1 (fun h => h)) 0).trans rfl; have HO1 := Aside.mk (And.intro hO1 hat1); clear hO1 hg1 hat1)
      | (refine wpList_append_row kMsg B rfl (.tmp 26) (.tmp 33) 27 54 (.agg mZ) 456 rfl Try.underlying27 info54 rfl (by decide) (by decide) (.slice A1 n1 c1) (ms.take i) (ms.drop (i + 1)) ⟨g, 0, none⟩ (0) _ (fun k => k < B ∨ (F k ∨ w.heap.size ≤ k)) (fun k => k < B ∨ (F k ∧ k < w.heap.size)) (by rfl) (by rfl) HO1.out.1 HP2.out.row HP2.out.far HP2.out.fresh HP2.out.base HM2.out ?_; intro v2 w2 hO2 hg2 hat2; rw [← List.eraseIdx_eq_take_drop_succ] at hO2; have hE := rlose_end HH.out.1 HH.out.2 HP2.out.chg HO1.out.2 hg2 hO2; obtain ⟨hb2, ⟨A2, c2, rfl⟩, hR2⟩ := hE; have HE := Aside.mk hR2; have g0 := blk_frozen hb2 0; have f0 : w2.cell? ⟨b, 0, none⟩ = some (.slice (some ⟨g, 0, none⟩) (i + 1) (i + 1)) := (blk_cell hb2 0).trans rfl; clear hO2 hg2 hat2 hb2 hR2))
    go_ret
    exact ⟨rfl, HE.out⟩
  · have hci2 : ¬ c = i := by omega
    have HM2 := Aside.mk (show ((ms.take i).length + (n - (i + 1))) * 456 ≤ 140737488355328 by rw [List.length_take, HN.out]; omega)
    go_enter Try.func16, Try.ntmps16
    go_wp2_with (first
      | (refine wpList_append_row kMsg B rfl (.tmp 17) (.tmp 23) 27 54 (.agg mZ) 456 rfl Try.underlying27 info54 rfl (by decide) (by decide) (.slice none 0 0) [] (ms.take i) ⟨g, 0, none⟩ i _ (fun k => k < B ∨ (F k ∨ w.heap.size ≤ k)) (fun k => k < B ∨ (F k ∧ k < w.heap.size)) (by rfl) (by rfl) HP.out.own HP.out.row HP.out.far HP.out.fresh HBw.out HM1.out ?_; intro v1 w1 hO1 hg1 hat1; rw [List.nil_append] at hO1; obtain ⟨A1, n1, c1, rfl⟩ : ∃ A7 n7 c7, v1 = .slice A7 n7 c7 := (by obtain ⟨A7, c7, e, _⟩ := Kd.Own_C hO1; exact ⟨_, _, _, e⟩); have HP2 := Aside.mk (lPre2 (i := i) (o := (i + 1) * 41) (m := n - (i + 1)) HR.out.1 HR.out.2 (.inr rfl) HBw.out hg1 hat1 (by have := HN.out; omega)); have f0 : w1.cell? ⟨b, 0, none⟩ = some (.slice (some ⟨g, 0, none⟩) n c) := (blk_cell (HP2.out.chg.keeps HH.out.1 (fun h => h)) 0).trans rfl; have HO1 := Aside.mk (And.intro hO1 hat1); clear hO1 hg1 hat1)
      | (refine wpList_append_row kMsg B rfl (.tmp 26) (.tmp 33) 27 54 (.agg mZ) 456 rfl Try.underlying27 info54 rfl (by decide) (by decide) (.slice A1 n1 c1) (ms.take i) (ms.drop (i + 1)) ⟨g, (i + 1) * 41, none⟩ (n - (i + 1)) _ (fun k => k < B ∨ (F k ∨ w.heap.size ≤ k)) (fun k => k < B ∨ (F k ∧ k < w.heap.size)) (by rfl) (by rfl) HO1.out.1 HP2.out.row HP2.out.far HP2.out.fresh HP2.out.base HM2.out ?_; intro v2 w2 hO2 hg2 hat2; rw [← List.eraseIdx_eq_take_drop_succ] at hO2; have hE := rlose_end HH.out.1 HH.out.2 HP2.out.chg HO1.out.2 hg2 hO2; obtain ⟨hb2, ⟨A2, c2, rfl⟩, hR2⟩ := hE; have HE := Aside.mk hR2; have g0 := blk_frozen hb2 0; have f0 : w2.cell? ⟨b, 0, none⟩ = some (.slice (some ⟨g, 0, none⟩) n c) := (blk_cell hb2 0).trans rfl; clear hO2 hg2 hat2 hb2 hR2))
    go_ret
    exact ⟨rfl, HE.out⟩
theorem rlose_yes {B : Nat} {w : World} {F : Nat → Prop} {b : Nat} {ms : List Msg} {last : Int} (h : RNetAt B w F b ms last) (i : Nat) (hi : i < ms.length) (hm : ms.length * 456 ≤ 140737488355328) :
    Calls Try.prog 16 #[.pointer (some ⟨b, 0, none⟩), .int .i64 i] w fun e w' => e = .returned (.bool true) ∧ RNetAt B w' (fun k => F k ∨ w.heap.size ≤ k) b (ms.eraseIdx i) last ∧ Chg w w' (fun k => k = b) := by
  obtain ⟨⟨A, c, h1, h2⟩, h3, h4⟩ := h
  rcases Kd.Row_of_Own h2 with ⟨h0, _⟩ | ⟨g, rfl, _, _, hFg, hR⟩
  · rw [h0] at hi; simp at hi
  exact rlose_core h1 h3 h4 hR hFg i hi rfl hm
end Go.Proofs.Ytjpeaeklhcnpnaa.K
