/- slices.SortedFunc over the keys of the timers' map: the keys in the order of their times. No condition but that they are few. -/
import Derived.Test.YtjpeaeklhcnpnaaT4
import Derived.Shelf.SlSortCmp.NoneTotal
namespace Go.Proofs.Ytjpeaeklhcnpnaa.K
open Go.RowKit Go.Sort Go.Shelf Go.Maps
set_option linter.unusedVariables false
set_option linter.unusedSimpArgs false
/-- All the timers' ids in their order. -/
structure TSorted (g : Int → Option Int) (ks : List Int) : Prop where
  asc : ks.Pairwise (TLt g)
  wf : ∀ k ∈ ks, (Lit.int .u64 k).wf = true
  mem : ∀ k, (Lit.int .u64 k).wf = true → (k ∈ ks ↔ (g k).isSome = true)
section
variable {w w' : World} {tb mb n sz : Nat} {g : Int → Option Int}
theorem TimAt.grown (h : TimAt w tb mb n sz g) {b : Nat} (hg : w.grownBy w' (some b)) (h1 : tb ≠ b) (h2 : mb ≠ b) : TimAt w' tb mb n sz g :=
  ⟨(hg.block tb h.lt (fun e => h1 (Option.some.inj e))).trans h.box, h.map.same (hg.block mb h.map.lt (fun e => h2 (Option.some.inj e)))⟩
/-- What came, each key once, whatever its order. -/
structure TAll (g : Int → Option Int) (ss : List Int) : Prop where
  nodup : ss.Nodup
  wf : ∀ k ∈ ss, (Lit.int .u64 k).wf = true
  mem : ∀ k, (Lit.int .u64 k).wf = true → (k ∈ ss ↔ (g k).isSome = true)
theorem TAll.sorted {ss ks : List Int} (h : TAll g ss) (hp : ks.Perm ss) (hs : ∀ i j, i < j → (hj : j < ks.length) → (hi : i < ks.length) → ltOf (cfM g) ks[j] ks[i] = false) : TSorted g ks := by
  have hw : ∀ k ∈ ks, (Lit.int .u64 k).wf = true := fun k hk => h.wf k (hp.mem_iff.1 hk)
  refine ⟨?_, hw, fun k hk => (hp.mem_iff).trans (h.mem k hk)⟩
  have hn : ks.Nodup := hp.nodup_iff.2 h.nodup
  rw [List.pairwise_iff_getElem]
  intro i j hi hj hij
  have h1 := hs i j hij hj hi
  have hne : ks[i] ≠ ks[j] := by
    have := List.pairwise_iff_getElem.1 hn i j hi hj hij
    exact this
  have h2 : ¬ TLt g (ks[j] % M64) (ks[i] % M64) := by
    unfold ltOf cfM at h1
    rw [decide_eq_false_iff_not, tcf_neg] at h1
    exact h1
  rw [modM_of_wf (hw _ (List.getElem_mem hj)), modM_of_wf (hw _ (List.getElem_mem hi))] at h2
  unfold TLt at h2 ⊢
  omega
theorem keys_all {D : DataW Value} {ss : List Int} (hU : UKeys D ss) (hD : ∀ k, (Lit.int .u64 k).wf = true → match (g k).map (Value.int .i64) with
    | none => Maps.has D (.int .u64 k) = false
    | some v => Maps.has D (.int .u64 k) = true ∧ ∀ z, D.atKey (.int .u64 k) z = .held v) : TAll g ss := by
  refine ⟨hU.1, hU.2.2.1, fun k hk => ?_⟩
  rw [hU.2.1 k]
  have h := hD k hk
  cases hg : g k with
  | none => rw [hg] at h; simp only [Option.map_none] at h; simp [h]
  | some v => rw [hg] at h; simp only [Option.map_some] at h; simp [h.1]
end
theorem enters43 : ∀ args w, (callFunc 43 args).run Try.prog w = .ok (.enter 43 args) w := enters_of Try.func43 (by kernel_rfl) rfl
theorem enters70 : ∀ args w, (callFunc 70 args).run Try.prog w = .ok (.enter 70 args) w := enters_of Try.func70 (by kernel_rfl) rfl
/-- slices.SortFunc over the ids. -/
theorem sort69 {W w1 : World} {tb mb n sz B2 : Nat} {g : Int → Option Int} (h : TimAt W tb mb n sz g) (h2 : W.cell? ⟨B2, 0, none⟩ = some (.pointer (some ⟨tb, 0, none⟩))) (hb : Below W.heap.size W w1) {v : Value} {ss : List Int} (hA : TAll g ss)
    (hrow : w1.ownsRow W.heap.size 28 1 v ss.length (ss.map encU)) (hnil : v = .slice none 0 0 ↔ ss = []) (hlen : ss.length < 4611686018427387904) :
    Calls Try.prog 69 #[v, .func (.func 43) #[] #[.pointer (some ⟨B2, 0, none⟩)]] w1 fun e w' => e = .returned (.tuple #[]) ∧ ∃ ks, TSorted g ks ∧ USl w' (fun k => W.heap.size ≤ k) v ks ∧ Below W.heap.size W w' := by
  have hB : B2 < W.heap.size := by
    obtain ⟨o, ho, _⟩ := not_walk_of_cell h2
    exact (Array.getElem?_eq_some_iff.1 ho).1
  have hT : TimAt w1 tb mb n sz g := ⟨(hb.block tb h.lt).trans h.box, h.map.same (hb.block mb h.map.lt)⟩
  have hc2 : w1.cell? ⟨B2, 0, none⟩ = some (.pointer (some ⟨tb, 0, none⟩)) := (World.cell?_of_block (a := ⟨B2, 0, none⟩) (hb.block B2 hB)).trans h2
  by_cases hss : ss = []
  · rw [hnil.2 hss]
    have hL : SlLaysF0.n6 Try.prog Try.sortU_ren := { Try.sortU with }
    refine (AnyF.slices_SortFunc_none hL none 0 _ w1).mono ?_
    rintro e w' ⟨rfl, rfl⟩
    subst hss
    exact ⟨rfl, [], ⟨List.Pairwise.nil, fun k hk => by simp at hk, fun k hk => hA.mem k hk⟩, .inl ⟨rfl, rfl⟩, hb⟩
  · obtain ⟨g', cap, cur, rfl, hg0, hgb, hc1, hc3, hc4, htake⟩ := hrow.2.resolve_left (fun h => hss (hnil.1 h.1))
    rw [Nat.mul_one] at hc4 htake
    have hH : Holds encM w1 g' 0 ss.toArray := by
      intro j hj
      have hj' : j < ss.length := by simpa using hj
      refine ⟨?_, by simp [World.frozen?, hgb]⟩
      have h1 : (cur.toList.take ss.length)[j]? = (ss.map encU)[j]? := by rw [htake]
      rw [List.getElem?_take_of_lt hj', Array.getElem?_toList] at h1
      rw [blk_cell hgb, Nat.zero_add, h1, List.getElem?_map, List.getElem?_eq_getElem hj']
      simp only [Option.map_some, encM]
      rw [getElem!_pos _ j hj]
      simp only [List.getElem_toArray]
      rw [modM_of_wf (hA.wf _ (List.getElem_mem hj'))]
    have hcmp : CmpLays1 Try.prog 43 #[.pointer (some ⟨B2, 0, none⟩)] encM (cfM g) g' 0 ss.toArray.size w1 := by
      intro m os dk hdk x y
      have hg := sortWorld_grown (w := w1) (b := g') (off := 0) (n := m) (d := dk) (os := os) (enc := encM)
      have hT2 : TimAt (sortWorld encM w1 g' 0 m dk os) tb mb n sz g := hT.grown hg (by have := h.lt; omega) (by have := h.map.lt; omega)
      have h22 : (sortWorld encM w1 g' 0 m dk os).cell? ⟨B2, 0, none⟩ = some (.pointer (some ⟨tb, 0, none⟩)) :=
        (World.cell?_of_block (a := ⟨B2, 0, none⟩) (hg.block B2 (by have := hb.size; omega) (fun e => by have := Option.some.inj e; omega))).trans hc2
      exact (cmp43 hT2 h22 (modM_wf x) (modM_wf y)).mono fun _ _ ⟨he, hc⟩ => ⟨he, hc.grow⟩
    have hs := Any.slices_SortFunc Try.sortU encM encM_one (cfM g) (cfM_swo g) 43 #[.pointer (some ⟨B2, 0, none⟩)] g' 0 cap ss.toArray w1 enters43 hcmp hH (blk_lt hgb) (by simpa using hlen)
    have e1 : ss.toArray.size = ss.length := by simp
    rw [e1] at hs
    refine Calls.mono (f := 69) hs ?_
    rintro e w' ⟨rfl, d', m, os, hp, hsd, rfl⟩
    have hsize : d'.size = ss.length := by rw [hp.1]; simp
    have hperm : d'.toList.Perm ss := by
      have h3 := hp.2.2
      rw [show d'.extract 0 ss.length = d' by rw [← hsize]; exact Array.extract_size, show ss.toArray.extract 0 ss.length = ss.toArray by rw [← e1]; exact Array.extract_size] at h3
      simpa using h3
    have hl : d'.toList.length = ss.length := by simpa using hsize
    refine ⟨rfl, d'.toList, hA.sorted hperm ?_, .inr ⟨g', 0, cap, by rw [hl], hg0, ⟨⟨_, sortWorld_block hgb, ?_⟩, by rw [hl]; exact hc1, hc3, ?_⟩⟩, ?_⟩
    · intro i j hij hj hi
      have := hsd i j (Nat.zero_le _) hij (by rw [← hl]; exact hj)
      rw [getElem!_pos _ j (by simpa using hj), getElem!_pos _ i (by simpa using hi)] at this
      simpa using this
    · simp [putCells, hc4]
    · intro j x hj
      have hj' : j < d'.size := by
        have := (List.getElem?_eq_some_iff.1 hj).1
        simpa using this
      have hx : d'[j]! = x := by
        rw [getElem!_pos _ j hj']
        simpa [hj'] using hj
      have hxs : x ∈ ss := hperm.mem_iff.1 (List.mem_of_getElem? hj)
      rw [blk_cell (sortWorld_block hgb), Nat.zero_add]
      have hjc : j < cur.size := by omega
      unfold putCells
      rw [Array.getElem?_mapIdx, Array.getElem?_eq_getElem hjc]
      simp only [Option.map_some]
      rw [if_pos ⟨Nat.zero_le _, by omega⟩, Nat.sub_zero, hx]
      unfold encM
      rw [modM_of_wf (hA.wf x hxs)]
    · have hg := sortWorld_grown (w := w1) (b := g') (off := 0) (n := m) (d := d') (os := os) (enc := encM)
      exact hb.grown hg hb.size (fun k e => by have := Option.some.inj e; omega)
set_option maxHeartbeats 4000000 in
/-- slices.SortedFunc(maps.Keys(t.m), ..). -/
theorem sorted41 {W : World} {tb mb n sz B2 Bm : Nat} {g : Int → Option Int} (h : TimAt W tb mb n sz g) (h2 : W.cell? ⟨B2, 0, none⟩ = some (.pointer (some ⟨tb, 0, none⟩))) (h3 : W.cell? ⟨Bm, 0, none⟩ = some (.map (some mb))) (hsz : sz ≤ 1000) :
    Calls Try.prog 41 #[.func (.func 70) #[] #[.pointer (some ⟨Bm, 0, none⟩)], .func (.func 43) #[] #[.pointer (some ⟨B2, 0, none⟩)]] W fun e w' => ∃ v ks, e = .returned v ∧ TSorted g ks ∧ USl w' (fun k => W.heap.size ≤ k) v ks ∧ Below W.heap.size W w' := by
  have hBm : Bm < W.heap.size := by
    obtain ⟨o, ho, _⟩ := not_walk_of_cell h3
    exact (Array.getElem?_eq_some_iff.1 ho).1
  have hcol : Calls Try.prog 68 #[.func (.func 70) #[] #[.pointer (some ⟨Bm, 0, none⟩)]] W fun e w' => ∃ (v : Value) (ss : List Int), e = .returned v ∧ TAll g ss ∧ ss.length < 4611686018427387904 ∧ w'.ownsRow W.heap.size 28 1 v ss.length (ss.map encU) ∧ (v = .slice none 0 0 ↔ ss = []) ∧ Below W.heap.size W w' := by
    obtain ⟨D, hown, hD, hf⟩ := h.map
    have hseq := T.keys_gives Fence.wide 1 trivial rfl (Nat.le_refl _) Bm mb n D W hBm h3 hown
    have hc := callsIn_wide.1 (T.collect_in Fence.wide 3 trivial trivial rfl (Nat.le_refl _) 70 #[.pointer (some ⟨Bm, 0, none⟩)] trivial enters70 (UKeys D) (Maps.size D) (by rw [hD]; unfold maxLen; omega) (by rw [hD]; omega) W hseq)
    refine hc.mono ?_
    rintro e w' ⟨v, ss, rfl, hU, hrow, hnil, hb⟩
    have hle := hU.2.2.2
    exact ⟨v, ss, rfl, keys_all hU hf, by omega, hrow, hnil, hb⟩
  have HT := Aside.mk h
  have H2 := Aside.mk h2
  clear h h2 h3
  go_enter Try.func41, Try.ntmps41
  go_wp2_with (first
    | (go_at_call 68; refine hcol.mono ?_; rintro e w1 ⟨v, ss, rfl, hA, hlen, hrow, hnil, hb⟩; have HS := Aside.mk (sort69 HT.out H2.out hb hA hrow hnil hlen); clear hA hlen hrow hnil hb)
    | (go_at_call 69; refine HS.out.mono ?_; rintro e w' ⟨rfl, ks, hs, hu, hb⟩))
  go_ret
  exact ⟨_, ks, rfl, hs, hu, hb⟩
end Go.Proofs.Ytjpeaeklhcnpnaa.K
