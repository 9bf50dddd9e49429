/- The law NetSeen returns true at every input. No condition. -/
import Derived.Test.YtjpeaeklhcnpnaaP1
namespace Go.Proofs.Ytjpeaeklhcnpnaa.K
open Go.RowKit
set_option linter.unusedVariables false
set_option linter.unusedSimpArgs false
theorem add_off (ad : Addr) (m j : Nat) (hj : 0 < j) : ad.add (m + j) = ⟨(ad.add m).block, (ad.add m).off + j, none⟩ := by
  have h1 : m + j ≠ 0 := by omega
  unfold Addr.add
  rw [if_neg h1]
  split
  · rename_i h; subst h; simp
  · simp [Nat.add_assoc]
theorem op_at {w wr : World} {A : Option Addr} {n k : Nat} {xs : List Op} (h : kOp.C w Any A n xs) (hb : Below w.heap.size w wr) (hk : k < xs.length) :
    ∃ ad, A = some ad ∧ wr.cell? (ad.add (k * 44)) = some (.int .i64 xs[k].Kind) ∧ wr.cell? ⟨(ad.add (k * 44)).block, (ad.add (k * 44)).off + 1, none⟩ = some (.int .i64 xs[k].I) ∧ wr.cell? ⟨(ad.add (k * 44)).block, (ad.add (k * 44)).off + 2, none⟩ = some (.int .u64 xs[k].N) ∧
      (ad.add (k * 44)).block < w.heap.size ∧ (Lit.int .i64 xs[k].Kind).wf = true ∧ (Lit.int .i64 xs[k].I).wf = true ∧ (Lit.int .u64 xs[k].N).wf = true := by
  obtain ⟨h1, h2, h3⟩ := h
  have hn : 0 < n := by omega
  obtain ⟨ad, rfl, hF, hlt, hat⟩ := h3 hn
  obtain ⟨cs, hK, hc⟩ := hat k _ (List.getElem?_eq_getElem hk)
  obtain ⟨c1, c2, rfl, ⟨rfl, e1⟩, c3, c4, rfl, ⟨rfl, e2⟩, c5, c6, rfl, ⟨rfl, e3⟩, hM⟩ := hK
  have hbl : (ad.add (k * 44)).block = ad.block := by unfold Addr.add; split <;> rfl
  have hlt' : (ad.add (k * 44)).block < w.heap.size := by rw [hbl]; exact hlt
  refine ⟨ad, rfl, ?_, ?_, ?_, hlt', e1, e2, e3⟩
  · rw [hb.cell hlt']
    exact hc 0 _ rfl
  · rw [hb.cell (p := ⟨(ad.add (k * 44)).block, (ad.add (k * 44)).off + 1, none⟩) hlt']
    rw [← add_off _ _ _ (by decide)]
    exact hc 1 _ rfl
  · rw [hb.cell (p := ⟨(ad.add (k * 44)).block, (ad.add (k * 44)).off + 2, none⟩) hlt']
    rw [← add_off _ _ _ (by decide)]
    exact hc 2 _ rfl
def SeenLoop (w : World) (sb rb : Nat) (most : Int) (mo i : Nat) (wr : World) : Prop :=
  ∃ (FS FR : Nat → Prop) (L : List (Int × Int)) (M : Int → List Int) (nn : Nat), Inv mo L M ∧ L.length ≤ i ∧ nn ≤ i ∧ SeenAt wr FS sb nn mo M ∧ RefAt wr FR rb most L ∧
    (∀ k, FS k → w.heap.size ≤ k ∧ ¬ FR k ∧ k ≠ rb) ∧ (∀ k, FR k → w.heap.size ≤ k ∧ k ≠ sb) ∧ w.heap.size ≤ sb ∧ w.heap.size ≤ rb ∧ sb ≠ rb ∧ Below w.heap.size w wr
theorem Drawn.seen {w w' : World} {F : Nat → Prop} {b n most : Nat} {M : Int → List Int} (hd : Drawn w w') (h : SeenAt w F b n most M) : SeenAt w' F b n most M := h.chg (hd.chg NoF) (fun _ _ h => h) (fun h => h)
theorem Drawn.ref {w w' : World} {F : Nat → Prop} {b : Nat} {most : Int} {L : List (Int × Int)} (hd : Drawn w w') (h : RefAt w F b most L) : RefAt w' F b most L := h.chg (hd.chg NoF) (fun _ _ h => h) (fun h => h)
/-- A round of both. -/
theorem seen_round {w wr w1 w2 : World} {FS FR : Nat → Prop} {sb rb mo i nn n1 : Nat} {most : Int} {L L' : List (Int × Int)} {M' : Int → List Int} (h3 : L'.length ≤ L.length + 1) (hL : L.length ≤ i) (hn : nn ≤ i) (hI : Inv mo L' M') (hn1 : n1 ≤ nn + 1)
    (hS1 : SeenAt w1 (fun k => (FS k ∧ k < wr.heap.size) ∨ wr.heap.size ≤ k) sb n1 mo M') (hC1 : Chg wr w1 (fun k => FS k ∧ k < wr.heap.size)) (hR2 : RefAt w2 (fun k => (FR k ∧ k < wr.heap.size) ∨ w1.heap.size ≤ k) rb most L') (hC2 : Chg w1 w2 (fun k => (FR k ∧ k < wr.heap.size) ∨ k = rb))
    (hFS : ∀ k, FS k → w.heap.size ≤ k ∧ ¬ FR k ∧ k ≠ rb) (hFR : ∀ k, FR k → w.heap.size ≤ k ∧ k ≠ sb) (hsb : w.heap.size ≤ sb) (hrb : w.heap.size ≤ rb) (hne : sb ≠ rb) (hB : Below w.heap.size w wr) (hrl : rb < wr.heap.size) (hsl : sb < wr.heap.size) : SeenLoop w sb rb most mo (i + 1) w2 := by
  have hk := hS1.known
  have hsz := hB.size
  have hs1 := hC1.size
  refine ⟨_, _, L', M', n1, hI, by omega, by omega, hk.chg hC2 ?_ ?_, hR2, ?_, ?_, hsb, hrb, hne, ?_⟩
  · rintro k ⟨hk, hl⟩ h
    rcases hk with hk | hk
    · rcases h with h | h
      · exact (hFS k hk.1).2.1 h.1
      · exact (hFS k hk.1).2.2 h
    · rcases h with h | h
      · omega
      · omega
  · rintro (h | h)
    · exact (hFR _ h.1).2 rfl
    · exact hne h
  · rintro k ⟨hk, hl⟩
    rcases hk with hk | hk
    · refine ⟨(hFS k hk.1).1, fun h => ?_, (hFS k hk.1).2.2⟩
      rcases h with h | h
      · exact (hFS k hk.1).2.1 h.1
      · omega
    · refine ⟨by omega, fun h => ?_, by omega⟩
      rcases h with h | h <;> omega
  · rintro k (hk | hk)
    · exact hFR k hk.1
    · exact ⟨by omega, by omega⟩
  · refine (hB.trans (hC1.below hsz fun k hk => (hFS k hk.1).1)).trans (hC2.below (by omega) fun k hk => ?_)
    rcases hk with hk | hk
    · exact (hFR k hk.1).1
    · omega
theorem seen_begin {w w1 w2 : World} {sb mo : Nat} {mq : Int} (hS : SeenAt w2 (fun k => w1.heap.size ≤ k ∧ k ≠ sb) sb 0 mo (fun _ => [])) (hB1 : w.heap.size ≤ w1.heap.size) (hB : Below w.heap.size w w2) (hX : w.heap.size ≤ sb) :
    SeenLoop w sb w2.heap.size mq mo 0 (w2.alloc (.cells #[.int .i64 mq, .slice none 0 0] 72)) := by
  have hl := hS.lt
  have hs := hB.size
  refine ⟨_, fun _ => False, [], fun _ => [], 0, inv_start mo, Nat.le_refl _, Nat.le_refl _, hS.known.chg (Chg.alloc (Chg.refl w2 NoF) _) (fun _ _ h => h) (fun h => h), ⟨none, 0, blk_new _ _, Kd.Own_nil _ _ _ _ _, fun h => h⟩, ?_, fun k h => h.elim, hX, hs, by omega, below_alloc hB _⟩
  rintro k ⟨⟨h1, h2⟩, h3⟩
  exact ⟨by omega, fun h => h, by omega⟩
set_option maxHeartbeats 4000000 in
set_option maxRecDepth 100000 in
theorem netSeen_any (w : World) (most : Int) (hm : (Lit.int .i64 most).wf = true) (xs : List Op) (A : Option Addr) (n c : Nat) (hx : (Kd.slice 480 kOp).K w Any xs [.slice A n c]) :
    Calls Try.prog 4 #[.int .i64 most, .slice A n c] w fun e w' => e = .returned (.bool true) ∧ Below w.heap.size w w' := by
  obtain ⟨A', c', he, hc, hb, hC⟩ := hx
  simp only [List.cons.injEq, and_true] at he
  injection he with e1 e2 e3
  subst e1 e2 e3
  have HC := Aside.mk hC
  clear hC
  go_enter Try.func4, Try.ntmps4
  go_wp2_with fail
  refine (awake_any w).mono ?_
  rintro e w1 ⟨rfl, hB1⟩
  have HB1 := Aside.mk hB1
  clear hB1
  go_wp2_with fail
  have hmw : (Lit.int .i64 (most.tmod 30)).wf = true := by
    have h1 := Int.tmod_lt_of_pos most (show (0 : Int) < 30 by decide)
    have h2 : -30 < most.tmod 30 := by
      rcases Int.lt_or_le most 0 with h | h
      · have := Int.tmod_lt_of_pos (-most) (show (0 : Int) < 30 by decide)
        rw [Int.neg_tmod] at this
        omega
      · have := Int.tmod_nonneg 30 h
        omega
    simp only [Lit.wf, Bool.and_eq_true, decide_eq_true_eq]
    exact ⟨by show -9223372036854775808 ≤ _; omega, by show _ ≤ 9223372036854775807; omega⟩
  have hms : most.tmod 30 < 30 := Int.tmod_lt_of_pos most (by decide)
  generalize most.tmod 30 = mq at *
  have HMW := Aside.mk hmw
  have hmo1 : 1 ≤ (max mq 1).toNat := by omega
  have hmo2 : (max mq 1).toNat ≤ 30 := by omega
  refine (newSeen_any mq hmw w1).mono ?_
  rintro e w2 ⟨sb, rfl, hsb, hS, hB⟩
  have HS2 := Aside.mk hS
  have HB2 := Aside.mk (below_self HB1.out hB)
  have HX := Aside.mk (Nat.le_trans HB1.out.size hsb)
  have HXl := Aside.mk hS.lt
  have HB1 := Aside.mk HB1.out.size
  clear hS hB hsb
  go_wp2_with fail
  go_loopw [8] (fun v8 wr => ∃ i : Nat, i ≤ xs.length ∧ i ≤ 150 ∧ v8 = .int .i64 i ∧ Aside (SeenLoop w sb w2.heap.size mq (max mq 1).toNat i wr)) (fun v8 _ => xs.length - (intOf v8).toNat)
  case atStart => exact ⟨0, Nat.zero_le _, Nat.zero_le _, rfl, ⟨seen_begin HS2.out HB1.out HB2.out HX.out⟩⟩
  case round =>
    obtain ⟨i, hi, hi2, rfl, HR⟩ := hrel
    by_cases hlt : i < xs.length ∧ i < 150
    · obtain ⟨hlt1, hlt2⟩ := hlt
      obtain ⟨FS, FR, L, M, nn, hI, hL, hnn, hS, hRf, hFS, hFR, hsb, hrb, hne, hB⟩ := HR.out
      obtain ⟨ad, rfl, m0, m1, m2, hla, e1, e2, e3⟩ := op_at HC.out hB hlt1
      obtain ⟨x, hx⟩ : ∃ x, xs[i] = x := ⟨_, rfl⟩
      rw [hx] at m0 m1 m2 e1 e2 e3
      have HM := Aside.mk (And.intro m1 m2)
      have hcl : ∀ W', Aside (Below w.heap.size wr W') → (fun W : World => W.cell? ⟨(ad.add (i * 44)).block, (ad.add (i * 44)).off + 1, none⟩ = some (.int .i64 x.I) ∧ W.cell? ⟨(ad.add (i * 44)).block, (ad.add (i * 44)).off + 2, none⟩ = some (.int .u64 x.N)) W' := fun W' I => ⟨(I.out.cell (p := ⟨(ad.add (i * 44)).block, (ad.add (i * 44)).off + 1, none⟩) hla).trans HM.out.1, (I.out.cell (p := ⟨(ad.add (i * 44)).block, (ad.add (i * 44)).off + 2, none⟩) hla).trans HM.out.2⟩
      have HI5 : Aside (Below w.heap.size wr wr.drew) := Aside.mk (Below.refl _ _).drew
      have HF := Aside.mk (fresh_any (hS.known.chg ((Chg.refl wr NoF).drew) (fun _ _ h => h) (fun h => h)) hI.1 hmo1 (by omega) (by omega) x.I x.N e2)
      have HRf := fun (w1 : World) (hC1 : Chg wr w1 (fun k => FS k ∧ k < wr.heap.size)) => Aside.mk (ref_any (w := w1) (L := L) (most := mq) HMW.out (by omega) (hRf.known.chg hC1 (fun k hk h => (hFS k h.1).2.1 hk.1) (fun h => (hFS _ h.1).2.2 rfl)) e2 e3)
      have HQ := Aside.mk (And.intro hI (And.intro hFS (And.intro hFR (And.intro hsb (And.intro hrb (And.intro hne (And.intro hB (And.intro hRf.lt hS.lt))))))))
      clear hI hS hRf hFS hFR hsb hrb hne hB m0 m1 m2 e1 e2 e3 hla HM HR hx
      go_wp2_with fail
      go_region_held3 (fun W : World => W.cell? ⟨(ad.add (i * 44)).block, (ad.add (i * 44)).off + 1, none⟩ = some (.int .i64 x.I) ∧ W.cell? ⟨(ad.add (i * 44)).block, (ad.add (i * 44)).off + 2, none⟩ = some (.int .u64 x.N)) (exact hcl _ (by assumption))
        (first
          | (go_at_call 25; refine HF.out.mono ?_; rintro e w1' ⟨rfl, ⟨n1, hn1, hS1⟩, hC1⟩; have hC1' : Chg wr w1' (fun k => FS k ∧ k < wr.heap.size) := ⟨hC1.os, hC1.tape, hC1.output, hC1.size, hC1.block⟩; have HS1 := Aside.mk (And.intro hn1 (And.intro hS1 hC1')); have HRf' := HRf w1' hC1'; have HI6 : Aside (Below w.heap.size wr w1') := Aside.mk (hC1'.below HQ.out.2.2.2.2.2.2.1.size (fun k hk => (HQ.out.2.1 k hk.1).1)); clear hn1 hS1 hC1 hC1' HRf HI5)
          | (go_at_call 26; refine HRf'.out.mono ?_; rintro e w2' ⟨r, L', rfl, hs, hR2, hC2⟩; obtain ⟨hr, hI', hlen⟩ := step_law HQ.out.1 hmo1 hs; subst hr; have HQ2 := Aside.mk (And.intro hlen (And.intro hI' (And.intro hR2 hC2))); have HI7 : Aside (Below w.heap.size wr w2') := Aside.mk (HI6.out.trans (hC2.below (Nat.le_trans HQ.out.2.2.2.2.2.2.1.size HS1.out.2.2.size) (fun k hk => hk.elim (fun h => (HQ.out.2.2.1 k h.1).1) (fun h => h ▸ HQ.out.2.2.2.2.1)))); clear hs hR2 hC2 hI' hlen HI6 HRf'))
      have HEND := Aside.mk (seen_round HQ2.out.1 hL hnn HQ2.out.2.1 HS1.out.1 HS1.out.2.1 HS1.out.2.2 HQ2.out.2.2.1 HQ2.out.2.2.2 HQ.out.2.1 HQ.out.2.2.1 HQ.out.2.2.2.1 HQ.out.2.2.2.2.1 HQ.out.2.2.2.2.2.1 HQ.out.2.2.2.2.2.2.1 HQ.out.2.2.2.2.2.2.2.1 HQ.out.2.2.2.2.2.2.2.2)
      clear HQ HQ2 HS1 HF hcl
      go_wp2
      go_round
      case rel => exact ⟨i + 1, hlt1, hlt2, rfl, HEND⟩
      case measure => simp only [intOf]; omega
    · have HB := Aside.mk (show Below w.heap.size w wr by obtain ⟨_, _, _, _, _, _, _, _, _, _, _, _, _, _, _, h⟩ := HR.out; exact h)
      by_cases hlt1 : i < xs.length
      · obtain rfl : i = 150 := by omega
        go_wp2
        go_ret
        exact ⟨rfl, HB.out⟩
      · obtain rfl : i = xs.length := by omega
        clear hlt
        go_wp2
        go_ret
        exact ⟨rfl, HB.out⟩
end Go.Proofs.Ytjpeaeklhcnpnaa.K
