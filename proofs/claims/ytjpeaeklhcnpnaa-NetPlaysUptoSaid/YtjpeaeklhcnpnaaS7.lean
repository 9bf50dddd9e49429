/- Fresh by contract. No condition but small numbers. -/
import Derived.Test.YtjpeaeklhcnpnaaS6
namespace Go.Proofs.Ytjpeaeklhcnpnaa.K
open Go.RowKit
set_option linter.unusedVariables false
set_option linter.unusedSimpArgs false
theorem zero79 (w : World) : (zeroValue 79).run Try.prog w = .ok nilSl w := by kernel_rfl
theorem und94 : Try.prog.underlying 94 = some (.map 3 79) := by kernel_rfl
theorem und3 : Try.prog.underlying 3 = some (.int .i64) := by kernel_rfl
theorem USl.shape {w : World} {F : Nat → Prop} {v : Value} {xs : List Int} (h : USl w F v xs) : ∃ A c, v = .slice A xs.length c := by
  rcases h with ⟨rfl, rfl⟩ | ⟨g, off, cap, rfl, _⟩
  · exact ⟨_, _, rfl⟩
  · exact ⟨_, _, rfl⟩
theorem URow.tail {w : World} {g off cap : Nat} {xs : List Int} (h : URow w g off cap xs) (hc : 1 ≤ cap) : URow w g (off + 1) (cap - 1) (xs.drop 1) := by
  obtain ⟨⟨cur, h1, h2⟩, h3, h4, h5⟩ := h
  refine ⟨⟨cur, h1, by omega⟩, by rw [List.length_drop]; omega, by omega, fun j x hj => ?_⟩
  rw [List.getElem?_drop] at hj
  have := h5 (1 + j) x hj
  rwa [show off + 1 + j = off + (1 + j) by omega]
theorem fresh_nil (w : World) (fr id : Int) : Calls Try.prog 25 #[.pointer none, .int .i64 fr, .int .u64 id] w fun e w' => e = .returned (.bool false) ∧ w' = w := by
  go_enter Try.func25, Try.ntmps25
  go_wp2
  go_ret
  exact ⟨rfl, rfl⟩
def FreshPost (w : World) (F : Nat → Prop) (b n most : Nat) (M : Int → List Int) (fr id : Int) (e : Ending) (w' : World) : Prop :=
  e = .returned (.bool (freshB most (M fr) id)) ∧ (∃ n', n' ≤ n + 1 ∧ SeenAt w' (fun k => F k ∨ w.heap.size ≤ k) b n' most (if freshB most (M fr) id then setM M fr (freshL most (M fr) id) else M)) ∧ Chg w w' F
theorem fresh_no {w : World} {F : Nat → Prop} {b n most : Nat} {M : Int → List Int} (h : SeenAt w F b n most M) (fr id : Int) (hb : freshB most (M fr) id = false) : FreshPost w F b n most M fr id (.returned (.bool false)) w := by
  refine ⟨by rw [hb], ⟨n, Nat.le_succ n, ?_⟩, Chg.refl _ _⟩
  rw [hb]
  have hl := h.lt
  obtain ⟨mb, sz, f, G, h1, h2, h3, h4, h5, h6, h7⟩ := h
  exact ⟨mb, sz, f, G, h1, h2, h3, fun k x hx => ⟨.inl (h4 k x hx).1, (h4 k x hx).2⟩, h5, .inl h6, fun h => h.elim h7 (by omega)⟩
theorem ins_call {w : World} {H : Nat → Prop} {A : Option Addr} {c i : Nat} {l : List Int} {id : Int} (h : USl w H (.slice A l.length c) l) (hk : ∀ k, H k → k < w.heap.size) (hP : Place l id i) (hb : l.length ≤ 1000000) :
    Calls Try.prog 40 #[.slice A l.length c, .int .i64 i, .slice (some ⟨w.heap.size, 0, none⟩) 1 1] (w.alloc (.cells #[.int .u64 id] 28)) fun e w' => ∃ g off cap, e = .returned (.slice (some ⟨g, off, none⟩) (l.length + 1) cap) ∧ (H g ∨ w.heap.size ≤ g) ∧ URow w' g off cap (ins id l) ∧ Chg w w' H := by
  have h' : USl (w.alloc (.cells #[.int .u64 id] 28)) H (.slice A l.length c) l := h.same fun k _ hl => Below.heap_alloc _ _ _ hl
  refine (insert_any h' hP.1 (blk_new _ _) (fun hh => Nat.lt_irrefl _ (hk _ hh)) (by omega)).mono ?_
  rintro e w' ⟨v', rfl, hu, hc, A', c', hv'⟩
  rw [ins_place hP] at hu hv'
  rcases hu with ⟨_, h0⟩ | ⟨g, off, cap, rfl, hg, hr⟩
  · have := ins_len id l
    rw [h0] at this
    simp at this
  · rw [ins_len] at *
    refine ⟨g, off, cap, rfl, hg.imp (fun h => h) (fun h => by simp at h; omega), hr, ?_⟩
    exact Chg.then_ (Chg.alloc (Chg.refl w H) _) hc (fun k _ h => h)
theorem fresh_end {w W w4 : World} {F : Nat → Prop} {b n most mb sz' : Nat} {M : Int → List Int} {f : Int → Option Value} {G : Int → Nat → Prop} {fr id : Int} {v : Value} (h1 : w.heap[b]? = some (.cells #[.int .i64 most, .map (some mb)] 96 (0, 0))) (hmb : mb < w.heap.size) (h3 : ∀ k, USl w (G k) ((f k).getD nilSl) (M k))
    (h4 : ∀ k x, G k x → (F x ∧ x < w.heap.size) ∧ x ≠ b ∧ x ≠ mb) (h5 : ∀ k k' x, G k x → G k' x → k = k') (h67 : (F mb ∧ mb < w.heap.size) ∧ ¬ (F b ∧ b < w.heap.size)) (hc : Chg w W (G fr)) (hu : USl W (fun k => G fr k ∨ w.heap.size ≤ k) v (freshL most (M fr) id))
    (h8 : MapAt 3 .i64 w4 mb (n + 1) sz' (fun k' => if k' = fr then some v else f k')) (hg : W.grownBy w4 (some mb)) (hb : freshB most (M fr) id = true) : FreshPost w F b n most M fr id (.returned (.bool true)) w4 := by
  have hbl := blk_lt h1
  have hnb : ¬ F b := fun h => h67.2 ⟨h, hbl⟩
  have hcm : Chg W w4 (fun k => k = mb) := Chg.grown (Chg.refl W _) hg (fun b hb => .inl (Option.some.inj hb).symm)
  have hall : Chg w w4 F := Chg.then_ (hc.mono fun k _ h => (h4 fr k h).1.1) hcm (fun k _ h => h ▸ h67.1.1)
  refine ⟨by rw [hb], ⟨n + 1, Nat.le_refl _, ?_⟩, hall⟩
  simp only [hb, if_true]
  refine ⟨mb, sz', _, fun k x => if k = fr then G fr x ∨ w.heap.size ≤ x else G k x, hall.keeps h1 hnb, h8, fun k => ?_, fun k x hx => ?_, fun k k' x hx hx' => ?_, .inl h67.1.1, fun h => h.elim hnb (by omega)⟩
  · by_cases e : k = fr
    · subst e
      simp only [setM, if_true]
      refine hu.same fun x hx hl => hcm.block x hl ?_
      rintro rfl
      rcases hx with hx | hx
      · exact (h4 _ _ hx).2.2 rfl
      · omega
    · simp only [setM, if_neg e]
      refine (h3 k).same fun x hx hl => ?_
      rw [hcm.block x (Nat.lt_of_lt_of_le hl hc.size) (fun e => (h4 _ _ hx).2.2 e)]
      exact hc.block x hl (fun hx' => e (h5 _ _ _ hx hx'))
  · by_cases e : k = fr
    · simp only [if_pos e] at hx
      rcases hx with hx | hx
      · exact ⟨.inl (h4 _ _ hx).1.1, (h4 _ _ hx).2⟩
      · exact ⟨.inr hx, by omega, by omega⟩
    · simp only [if_neg e] at hx
      exact ⟨.inl (h4 _ _ hx).1.1, (h4 _ _ hx).2⟩
  · by_cases e : k = fr <;> by_cases e' : k' = fr
    · rw [e, e']
    · simp only [if_pos e, if_neg e'] at hx hx'
      rcases hx with hx | hx
      · exact e ▸ h5 _ _ _ hx hx'
      · have := (h4 _ _ hx').1.2; omega
    · simp only [if_pos e', if_neg e] at hx hx'
      rcases hx' with hx' | hx'
      · exact e' ▸ h5 _ _ _ hx hx'
      · have := (h4 _ _ hx).1.2; omega
    · simp only [if_neg e, if_neg e'] at hx hx'
      exact h5 _ _ _ hx hx'
set_option maxHeartbeats 4000000 in
set_option maxRecDepth 100000 in
theorem fresh_any {w : World} {F : Nat → Prop} {b n most : Nat} {M : Int → List Int} (h : SeenAt w F b n most M) (hR : Rises most M) (hm1 : 1 ≤ most) (hmost : most ≤ 1000000) (hn : n < 9223372036854775807) (fr id : Int) (hf : (Lit.int .i64 fr).wf = true) :
    Calls Try.prog 25 #[.pointer (some ⟨b, 0, none⟩), .int .i64 fr, .int .u64 id] w (FreshPost w F b n most M fr id) := by
  obtain ⟨mb, sz, f, G, h1, h2, h3, h4, h5, h67⟩ := h.known
  have hlook := h2.look und3 und94 (zero79 w) hf
  have hsl := h3 fr
  obtain ⟨A, c, hv⟩ := hsl.shape
  rw [hv] at hlook hsl
  have k0 : w.cell? ⟨b, 0, none⟩ = some (.int .i64 most) := (blk_cell h1 0).trans rfl
  have k1 : w.cell? ⟨b, 1, none⟩ = some (.map (some mb)) := (blk_cell h1 1).trans rfl
  have hrs := (hR fr).1
  have hln := (hR fr).2
  have H := Aside.mk h
  have HS := Aside.mk hsl
  have HRs := Aside.mk hrs
  have H1 := Aside.mk h1
  have H2 := Aside.mk h2
  have H3 := Aside.mk h3
  have H4 := Aside.mk h4
  have H5 := Aside.mk h5
  have H67 := Aside.mk h67
  have HN := Aside.mk hn
  have HF := Aside.mk (fun hb => fresh_no h fr id hb)
  have HK : Aside (∀ k, G fr k → k < w.heap.size) := Aside.mk fun k hk => (h4 fr k hk).1.2
  clear h hsl hrs h1 h2 h3 h4 h5 h67 hR hv
  generalize hl : M fr = l at *
  have HL := Aside.mk hl
  by_cases hin : id ∈ l
  · have hd := decide_eq_true hin
    have HB : Aside (freshB most l id = false) := Aside.mk (by simp [freshB, hd])
    clear hl
    go_enter Try.func25, Try.ntmps25
    go_wp2_with fail
    refine (search_sl HS.out HRs.out (by omega) id).mono ?_
    rintro e w' ⟨i, rfl, hP, rfl⟩
    rw [hd]
    clear hP
    go_wp2
    go_ret
    exact HF.out HB.out
  · have hd := decide_eq_false hin
    clear hl
    go_enter Try.func25, Try.ntmps25
    go_wp2_with fail
    refine (search_sl HS.out HRs.out (by omega) id).mono ?_
    rintro e w' ⟨i, rfl, hP, rfl⟩
    rw [hd]
    have HP := Aside.mk hP
    have HZ := Aside.mk (place_zero hP)
    have hil := hP.1
    clear hP
    by_cases hz : i = 0 ∧ l.length = most
    · have hi0 : i = 0 := hz.1
      subst hi0
      have hle : ((l.length : Int) == (most : Int)) = true := by simp; omega
      have HB : Aside (freshB most l id = false) := Aside.mk (by
        have h1 := HZ.out.1 rfl
        simp only [freshB, hz.2, decide_true, Bool.true_and]
        rw [show (l.all fun x => decide (id ≤ x)) = true from List.all_eq_true.2 fun x hx => decide_eq_true (h1 x hx)]
        simp)
      go_wp2
      go_ret
      exact HF.out HB.out
    · have HB : Aside (freshB most l id = true) := Aside.mk (by
        simp only [freshB, Bool.and_eq_true, Bool.not_eq_true', Bool.and_eq_false_iff, decide_eq_true_eq, decide_eq_false_iff_not]
        refine ⟨hin, ?_⟩
        by_cases hi0 : i = 0
        · exact .inl (fun h => hz ⟨hi0, h⟩)
        · exact .inr (Bool.eq_false_iff.2 fun h => hi0 (HZ.out.2 fun x hx => of_decide_eq_true (List.all_eq_true.1 h x hx))))
      by_cases hi0 : i = 0
      · subst hi0
        have hle : ((l.length : Int) == (most : Int)) = false := by simp; omega
        have HI := Aside.mk (ins_call HS.out HK.out HP.out (show l.length ≤ 1000000 by omega))
        rw [show ((0 : Nat) : Int) = 0 from rfl] at HI
        go_wp2_with fail
        refine HI.out.mono ?_
        rintro e W ⟨g, off, cap, rfl, hg, hr, hc⟩
        have k0 : W.cell? ⟨b, 0, none⟩ = some (.int .i64 most) := (blk_cell (hc.keeps H1.out fun h => (H4.out _ _ h).2.1 rfl) 0).trans rfl
        have k1 : W.cell? ⟨b, 1, none⟩ = some (.map (some mb)) := (blk_cell (hc.keeps H1.out fun h => (H4.out _ _ h).2.1 rfl) 1).trans rfl
        have hcap : l.length + 1 ≤ cap := by have := hr.len; rw [ins_len] at this; exact this
        have hfit := hr.fit
        have hm := H2.out.chg hc (fun h => (H4.out _ _ h).2.2 rfl)
        have HHc := Aside.mk hc
        have HHr := Aside.mk hr
        have HHg := Aside.mk hg
        clear hc hr hg
        by_cases hcut : most < l.length + 1
        · obtain ⟨w4, hput, h8, hgr⟩ := hm.put und3 und94 HN.out hf (.slice (some ⟨g, off + 1, none⟩) l.length (cap - 1))
          have H8 := Aside.mk h8
          have HG := Aside.mk hgr
          have HU : Aside (USl W (fun k => G fr k ∨ w'.heap.size ≤ k) (.slice (some ⟨g, off + 1, none⟩) l.length (cap - 1)) (freshL most (M fr) id)) := Aside.mk (by
            rw [HL.out, freshL, if_pos hcut]
            refine .inr ⟨g, off + 1, cap - 1, by rw [List.length_drop, ins_len]; rfl, HHg.out, HHr.out.tail (by omega)⟩)
          clear hm h8 hgr
          go_wp2
          go_ret

          exact fresh_end H1.out H67.out.1.2 H3.out H4.out H5.out H67.out HHc.out HU.out H8.out HG.out (by rw [HL.out]; exact HB.out)
        · obtain ⟨w4, hput, h8, hgr⟩ := hm.put und3 und94 HN.out hf (.slice (some ⟨g, off, none⟩) (l.length + 1) cap)
          have H8 := Aside.mk h8
          have HG := Aside.mk hgr
          have HU : Aside (USl W (fun k => G fr k ∨ w'.heap.size ≤ k) (.slice (some ⟨g, off, none⟩) (l.length + 1) cap) (freshL most (M fr) id)) := Aside.mk (by
            rw [HL.out, freshL, if_neg hcut]
            refine .inr ⟨g, off, cap, by rw [ins_len], HHg.out, HHr.out⟩)
          clear hm h8 hgr
          go_wp2
          go_ret
          exact fresh_end H1.out H67.out.1.2 H3.out H4.out H5.out H67.out HHc.out HU.out H8.out HG.out (by rw [HL.out]; exact HB.out)
      · have hi0' : ((i : Int) == 0) = false := by simp; omega
        go_wp2_with fail
        refine (ins_call HS.out HK.out HP.out (by omega)).mono ?_
        rintro e W ⟨g, off, cap, rfl, hg, hr, hc⟩
        have k0 : W.cell? ⟨b, 0, none⟩ = some (.int .i64 most) := (blk_cell (hc.keeps H1.out fun h => (H4.out _ _ h).2.1 rfl) 0).trans rfl
        have k1 : W.cell? ⟨b, 1, none⟩ = some (.map (some mb)) := (blk_cell (hc.keeps H1.out fun h => (H4.out _ _ h).2.1 rfl) 1).trans rfl
        have hcap : l.length + 1 ≤ cap := by have := hr.len; rw [ins_len] at this; exact this
        have hfit := hr.fit
        have hm := H2.out.chg hc (fun h => (H4.out _ _ h).2.2 rfl)
        have HHc := Aside.mk hc
        have HHr := Aside.mk hr
        have HHg := Aside.mk hg
        clear hc hr hg
        by_cases hcut : most < l.length + 1
        · obtain ⟨w4, hput, h8, hgr⟩ := hm.put und3 und94 HN.out hf (.slice (some ⟨g, off + 1, none⟩) l.length (cap - 1))
          have H8 := Aside.mk h8
          have HG := Aside.mk hgr
          have HU : Aside (USl W (fun k => G fr k ∨ w'.heap.size ≤ k) (.slice (some ⟨g, off + 1, none⟩) l.length (cap - 1)) (freshL most (M fr) id)) := Aside.mk (by
            rw [HL.out, freshL, if_pos hcut]
            refine .inr ⟨g, off + 1, cap - 1, by rw [List.length_drop, ins_len]; rfl, HHg.out, HHr.out.tail (by omega)⟩)
          clear hm h8 hgr
          go_wp2
          go_ret

          exact fresh_end H1.out H67.out.1.2 H3.out H4.out H5.out H67.out HHc.out HU.out H8.out HG.out (by rw [HL.out]; exact HB.out)
        · obtain ⟨w4, hput, h8, hgr⟩ := hm.put und3 und94 HN.out hf (.slice (some ⟨g, off, none⟩) (l.length + 1) cap)
          have H8 := Aside.mk h8
          have HG := Aside.mk hgr
          have HU : Aside (USl W (fun k => G fr k ∨ w'.heap.size ≤ k) (.slice (some ⟨g, off, none⟩) (l.length + 1) cap) (freshL most (M fr) id)) := Aside.mk (by
            rw [HL.out, freshL, if_neg hcut]
            refine .inr ⟨g, off, cap, by rw [ins_len], HHg.out, HHr.out⟩)
          clear hm h8 hgr
          go_wp2
          go_ret
          exact fresh_end H1.out H67.out.1.2 H3.out H4.out H5.out H67.out HHc.out HU.out H8.out HG.out (by rw [HL.out]; exact HB.out)
end Go.Proofs.Ytjpeaeklhcnpnaa.K
