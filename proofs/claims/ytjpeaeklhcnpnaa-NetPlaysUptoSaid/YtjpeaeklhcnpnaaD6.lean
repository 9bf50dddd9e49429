/- net.Twice by a contract. No condition but that the messages fit. -/
import Derived.Test.YtjpeaeklhcnpnaaD5b
namespace Go.Proofs.Ytjpeaeklhcnpnaa.K
open Go.RowKit
set_option linter.unusedVariables false
set_option linter.unusedSimpArgs false
theorem twice_pre {w V : World} {F : Nat → Prop} {A : Option Addr} {c : Nat} {ms : List Msg} {y : Msg} {cs : List Value} (h2 : kMsg.Own 54 w F 0 (.slice A ms.length c) ms) (hV : Chg w V NoF) (hK : kMsg.K V (fun k => w.heap.size ≤ k) y cs) :
    kMsg.Own 54 (V.alloc (.cells cs.toArray 54)) (fun k => F k ∨ w.heap.size ≤ k) 0 (.slice A ms.length c) ms ∧ kMsg.C (V.alloc (.cells cs.toArray 54)) (fun k => w.heap.size ≤ k) (some ⟨V.heap.size, 0, none⟩) 1 [y] ∧
      (∀ k, w.heap.size ≤ k → k < (V.alloc (.cells cs.toArray 54)).heap.size → (F k ∨ w.heap.size ≤ k) ∧ some k ≠ (Value.slice A ms.length c).ownBlock) ∧ (∀ k, (V.alloc (.cells cs.toArray 54)).heap.size ≤ k → (F k ∨ w.heap.size ≤ k)) ∧
      (∀ k, (Value.slice A ms.length c).ownBlock = some k → F k ∧ k < w.heap.size) := by
  have hO : ∀ k, (Value.slice A ms.length c).ownBlock = some k → F k ∧ k < w.heap.size := fun k hk => ⟨h2.1 k hk, by
    obtain ⟨_, inner, ho, _⟩ := h2
    exact (Kd.own_base ho k hk).2⟩
  have hsz : (V.alloc (.cells cs.toArray 54)).heap.size = V.heap.size + 1 := by simp
  have hs := hV.size
  refine ⟨?_, ?_, fun k hk hl => ⟨.inr hk, fun he => by have := hO k he.symm; omega⟩, fun k hk => .inr (by rw [hsz] at hk; omega), hO⟩
  · exact Kd.Own_mono (Kd.Own_move (fun k hk hl => (hV.alloc _).block k hl (fun h => h)) h2) (fun k hk => .inl hk)
  · have hb5 : Below V.heap.size V (V.alloc (.cells cs.toArray 54)) := below_alloc (Below.refl _ _) _
    refine ⟨rfl, by omega, fun _ => ⟨_, rfl, hs, by rw [hsz]; show V.heap.size < _; omega, fun j p hj => ?_⟩⟩
    have h0 : j = 0 := by
      have := (List.getElem?_eq_some_iff.1 hj).1
      simp at this
      exact this
    subst h0
    obtain rfl : y = p := by simpa using hj
    refine ⟨cs, Kd.below hK hb5, fun i u hu => ?_⟩
    rw [Addr.add_mid, blk_cell (blk_new _ _), Nat.zero_mul, Nat.zero_add, Nat.zero_add]
    simpa using hu
theorem twice_end {w V w7 : World} {F : Nat → Prop} {b : Nat} {A A7 : Option Addr} {c c7 n0 n7 : Nat} {ms' : List Msg} {last : Int} {cs : List Value} (hb : ¬ F b ∧ b < w.heap.size) (hV : Chg w V NoF)
    (hr : ∀ k, (Value.slice A n0 c).ownBlock = some k → F k ∧ k < w.heap.size) (hO : kMsg.Own 54 w7 (fun k => F k ∨ w.heap.size ≤ k) 0 (.slice A7 ms'.length c7) ms') (hg : (V.alloc (.cells cs.toArray 54)).grownBy w7 (Value.slice A n0 c).ownBlock)
    (h7 : w7.heap[b]? = some (.cells #[.slice A n0 c, .int .u64 last] 88 (0, 0))) (hn7 : ms'.length = n7) :
    NetAt (w7.setCell ⟨b, 0, none⟩ (.slice A7 n7 c7)) (fun k => F k ∨ w.heap.size ≤ k) b ms' last ∧ Chg w (w7.setCell ⟨b, 0, none⟩ (.slice A7 n7 c7)) (fun k => F k ∨ k = b) := by
  subst hn7
  have hne : ∀ k, (F k ∨ w.heap.size ≤ k) → k ≠ b := by
    rintro k hk rfl
    rcases hk with hk | hk
    · exact hb.1 hk
    · omega
  refine ⟨⟨A7, c7, blk_set h7 0 _, Own_set hO _ hne, fun h => hne b h rfl⟩, ?_⟩
  exact (((hV.alloc _).mono (fun k _ hk => hk.elim)).grown hg (fun k hk => .inl (.inl (hr k hk).1))).set (a := ⟨b, 0, none⟩) (.inl (.inr rfl)) _
theorem twice_range {w V w7 : World} {F : Nat → Prop} {A : Option Addr} {n0 c z : Nat} {cs cs' : List Value} (hr : V.rangeAt z 0 cs) (hV : Chg w V NoF) (hO : ∀ k, (Value.slice A n0 c).ownBlock = some k → F k ∧ k < w.heap.size)
    (hg : (V.drew.alloc (.cells cs'.toArray 54)).grownBy w7 (Value.slice A n0 c).ownBlock) (hz : w.heap.size ≤ z) : w7.rangeAt z 0 cs := by
  intro j v hv
  have h1 := hr j v hv
  have hl := World.block_lt_of_cell? V _ h1
  have h2 : w7.heap[z]? = V.heap[z]? := by
    rw [hg.block z (by rw [World.size_alloc]; exact Nat.lt_succ_of_lt hl) (fun e => by have := (hO z e.symm).2; omega)]
    exact Below.heap_alloc _ _ _ hl
  rw [World.cell?_of_block (w := V) h2]
  exact h1
set_option maxHeartbeats 4000000 in
set_option maxRecDepth 100000 in
theorem twice_no {w : World} {F : Nat → Prop} {b : Nat} {ms : List Msg} {last : Int} (h : NetAt w F b ms last) (i : Int) (hi : i < 0 ∨ (ms.length : Int) ≤ i) : Calls Try.prog 17 #[.pointer (some ⟨b, 0, none⟩), .int .i64 i] w fun e w' => e = .returned (.bool false) ∧ Below w.heap.size w w' := by
  have HP := Aside.mk (peek_no h i hi)
  clear h hi
  go_enter Try.func17, Try.ntmps17
  go_wp2_with fail
  refine HP.out.mono ?_
  rintro e w5 ⟨he, hb⟩
  obtain ⟨Z, hZ⟩ : ∃ Z, mZ = Z := ⟨_, rfl⟩
  rw [hZ] at he
  have HZl := Aside.mk (show Z.size = 41 by rw [← hZ]; rfl)
  have HZ1 := Aside.mk (show Z.all (·.oneCell') = true by rw [← hZ]; exact mZ_one)
  subst he
  have HB5 := Aside.mk hb
  clear hb HP hZ
  go_wp2_with (refine wpList_store_mid rfl 54 (.tmp 5) (.tmp 11) (by rfl) w5.heap.size 0 Z (by rfl) (by rfl) (there_blk (blk_new w5 _) rfl HZl.out) (j54 HZl.out) HZ1.out ?_)
  go_ret
  exact ⟨rfl, below_setCells HB5.out.size _ _ _ (below_alloc HB5.out _)⟩
set_option maxHeartbeats 4000000 in
set_option maxRecDepth 100000 in
theorem twice_nil (w : World) (i : Int) : Calls Try.prog 17 #[.pointer none, .int .i64 i] w fun e w' => e = .returned (.bool false) ∧ Below w.heap.size w w' := by
  have HP := Aside.mk (peek_nil w i)
  go_enter Try.func17, Try.ntmps17
  go_wp2_with fail
  refine HP.out.mono ?_
  rintro e w5 ⟨he, hb⟩
  obtain ⟨Z, hZ⟩ : ∃ Z, mZ = Z := ⟨_, rfl⟩
  rw [hZ] at he
  have HZl := Aside.mk (show Z.size = 41 by rw [← hZ]; rfl)
  have HZ1 := Aside.mk (show Z.all (·.oneCell') = true by rw [← hZ]; exact mZ_one)
  subst he
  have HB5 := Aside.mk hb
  clear hb HP hZ
  go_wp2_with (refine wpList_store_mid rfl 54 (.tmp 5) (.tmp 11) (by rfl) w5.heap.size 0 Z (by rfl) (by rfl) (there_blk (blk_new w5 _) rfl HZl.out) (j54 HZl.out) HZ1.out ?_)
  go_ret
  exact ⟨rfl, below_setCells HB5.out.size _ _ _ (below_alloc HB5.out _)⟩
set_option maxHeartbeats 4000000 in
set_option maxRecDepth 100000 in
theorem twice_yes {w : World} {F : Nat → Prop} {b : Nat} {ms : List Msg} {last : Int} (h : NetAt w F b ms last) (i : Nat) (hi : i < ms.length) (hm : (ms.length + 1) * 456 ≤ 140737488355328) :
    Calls Try.prog 17 #[.pointer (some ⟨b, 0, none⟩), .int .i64 i] w fun e w' => e = .returned (.bool true) ∧ NetAt w' (fun k => F k ∨ w.heap.size ≤ k) b (ms ++ [ms[i]]) last ∧ Chg w w' (fun k => F k ∨ k = b) := by
  have HP := Aside.mk (peek_yes h i hi)
  obtain ⟨A, c, h1, h2, h3⟩ := h
  have HH := Aside.mk (And.intro h1 (And.intro h2 (And.intro h3 (blk_lt h1))))
  obtain ⟨y, hy⟩ : ∃ y, ms[i] = y := ⟨_, rfl⟩
  rw [hy] at HP ⊢
  clear h1 h2 h3 hy
  go_enter Try.func17, Try.ntmps17
  go_wp2_with fail
  refine HP.out.mono ?_
  rintro e w5 ⟨cs, rfl, hK, hb⟩
  have HK := Aside.mk hK
  have HB5 := Aside.mk hb
  have HL := Aside.mk (kMsg.len hK)
  have HO := Aside.mk (kMsg.one hK)
  clear hK hb HP
  go_upto_region 3 with (refine wpList_store_mid rfl 54 (.tmp 5) (.tmp 11) (by rfl) w5.heap.size 0 cs.toArray (by rfl) (by rfl) (there_blk (blk_new w5 _) rfl (by rw [List.size_toArray]; exact HL.out)) (j54 (by rw [List.size_toArray]; exact HL.out)) (all_oneCell_toArray HO.out) ?_)
  generalize hV : (w5.alloc _).setCells _ _ _ = V
  have hV2 : V.rangeAt w5.heap.size 0 cs ∧ Chg w V NoF ∧ kMsg.K V (fun k => w.heap.size ≤ k) y cs := by
    rw [← hV]
    refine ⟨World.rangeAt_setCells_same _ _ _ _ (there_blk (blk_new w5 _) rfl (by rw [HL.out]; rfl)), Chg.sets (.inr HB5.out.size) _ _ ((Chg.of_below HB5.out NoF).alloc _), ?_⟩
    exact kMsg.mono (fun k hk => hk.1) (kMsg.move (fun k hk _ => setCells_other _ _ _ (Nat.ne_of_lt hk.2)) (Kd.below (kMsg.lt HK.out) (below_alloc (Below.refl _ _) _)))
  have HV := Aside.mk hV2
  have HVb := Aside.mk (hV2.2.1.keeps HH.out.1 (fun h => h))
  have Hz5 := Aside.mk HB5.out.size
  clear hV hV2 HB5 HK
  have hS0 : (fun W : World => W.cell? ⟨b, 0, none⟩ = some (.slice A ms.length c) ∧ W.rangeAt w5.heap.size 0 cs) V.drew := ⟨(blk_cell HVb.out 0).trans rfl, HV.out.1⟩
  refine region_L (fun W : World => W.cell? ⟨b, 0, none⟩ = some (.slice A ms.length c) ∧ W.rangeAt w5.heap.size 0 cs) (fun j => j != 10) (by kernel_rfl) ?_
  try simp only [Act.put, List.setIfInBounds_toArray, List.set_cons_zero, List.set_cons_succ]
  refine anyL_take0 (i := 0) (oi := _) (v := ?_) rfl (by kernel_rfl) (by kernel_rfl) (by kernel_rfl) (fun _ _ _ h => h) (Or.inl ⟨by rfl, ?_⟩) ?_
  rotate_left
  · intro wv
    go_simp
    try with_reducible rfl
  try simp only [Act.put, List.setIfInBounds_toArray, List.set_cons_zero, List.set_cons_succ]
  refine anyL_take0 (i := 1) (oi := _) (v := ?_) rfl (by kernel_rfl) (by kernel_rfl) (by kernel_rfl) (fun _ _ _ h => h) (Or.inl ⟨by rfl, ?_⟩) ?_
  rotate_left
  · intro wv
    go_simp
    try with_reducible rfl
  try simp only [Act.put, List.setIfInBounds_toArray, List.set_cons_zero, List.set_cons_succ]
  refine anyL_take0 (i := 2) (oi := _) (v := ?_) rfl (by kernel_rfl) (by kernel_rfl) (by kernel_rfl) (fun _ _ _ h => h) (Or.inl ⟨by rfl, ?_⟩) ?_
  rotate_left
  · intro wv
    go_simp
    try with_reducible rfl
  try simp only [Act.put, List.setIfInBounds_toArray, List.set_cons_zero, List.set_cons_succ]
  refine anyL_take0 (i := 3) (oi := _) (v := ?_) rfl (by kernel_rfl) (by kernel_rfl) (by kernel_rfl) (fun _ _ _ h => h) (Or.inl ⟨by rfl, ?_⟩) ?_
  rotate_left
  · intro wv
    go_simp
    try with_reducible rfl
  try simp only [Act.put, List.setIfInBounds_toArray, List.set_cons_zero, List.set_cons_succ]
  refine anyL_take (i := 4) (oi := _) (v := ?_) rfl (by kernel_rfl) (by kernel_rfl) (by kernel_rfl) (by kernel_rfl) (fun _ _ _ h => h) (Or.inl ⟨by rfl, ?_⟩) (by assumption) ?_
  rotate_left
  · intro wv hSw
    try dsimp only at hSw
    go_simp
    with_reducible rfl
  try simp only [Act.put, List.setIfInBounds_toArray, List.set_cons_zero, List.set_cons_succ]
  refine anyL_take (i := 5) (oi := _) (v := .agg cs.toArray) rfl (by kernel_rfl) (by kernel_rfl) (by kernel_rfl) (by kernel_rfl) (fun _ _ _ h => h) (yieldsIf_load_mid (by rfl) 54 (.tmp 5) (by rfl) w5.heap.size 0 (by rfl) cs _ (fun _ h => h.2) Try.underlying54 rfl (j54 HL.out)) (by assumption) ?_
  try simp only [Act.put, List.setIfInBounds_toArray, List.set_cons_zero, List.set_cons_succ]
  have HP := Aside.mk (twice_pre (V := V.drew) HH.out.2.1 HV.out.2.1.drew (kMsg.move (w := V) (w1 := V.drew) (fun _ _ _ => rfl) HV.out.2.2))
  obtain ⟨i0, hi0, hzz⟩ := Option.map_eq_some_iff.1 info54
  have HZ := Aside.mk hzz
  clear hzz
  refine anyL_one (i := 6) (by kernel_rfl) rfl rfl (fun K hK => ?_)
  refine wp_buildOne 27 54 i0 (.tmp 19) (by rfl) Try.underlying27 hi0 (.agg mZ) zero54 41 (by have := HZ.out; simp only [Prod.mk.injEq] at this; exact this.2.1) rfl (by decide) (by decide) (.agg cs.toArray) (by rfl) (by show cs.toArray.size = 41; rw [List.size_toArray]; exact HL.out) ?_
  clear hi0 HZ
  have hS6 : (fun W : World => W.cell? ⟨b, 0, none⟩ = some (.slice A ms.length c) ∧ W.rangeAt w5.heap.size 0 cs) (V.drew.alloc (.cells cs.toArray 54)) := ⟨(blk_cell (blk_alloc (w := V.drew) HVb.out _) 0).trans rfl, World.rangeAt_alloc (w := V.drew) hS0.2 _⟩
  refine hK _ _ (fun _ => hS6) ?_
  clear hK K hS0
  try simp only [Act.put, List.setIfInBounds_toArray, List.set_cons_zero, List.set_cons_succ]
  refine anyL_one (i := 7) (by kernel_rfl) rfl rfl (fun K hK => ?_)
  refine wp_append_row kMsg 0 (.tmp 18) (.tmp 20) 27 54 (.agg mZ) 456 (by rfl) Try.underlying27 info54 rfl (by decide) (by decide) (.slice A ms.length c) ms [y] ⟨V.drew.heap.size, 0, none⟩ 1 1 (fun k => F k ∨ w.heap.size ≤ k) (fun k => w.heap.size ≤ k) (by rfl) (by rfl) HP.out.1 HP.out.2.1 HP.out.2.2.1 HP.out.2.2.2.1 (Nat.zero_le _) hm ?_
  intro v1 w7 hO7 hg7 hat7
  obtain ⟨A7, c7, rfl, _, _⟩ := Kd.Own_C hO7
  have hb7 : w7.heap[b]? = some (.cells #[.slice A ms.length c, .int .u64 last] 88 (0, 0)) := by
    have hbl := blk_lt HVb.out
    rw [hg7.block b (by rw [World.size_alloc]; exact Nat.lt_succ_of_lt hbl) (fun e => HH.out.2.2.1 (HP.out.2.2.2.2 b e.symm).1)]
    exact blk_alloc (w := V.drew) HVb.out _
  have HE := Aside.mk (twice_end (n7 := ms.length + 1) HH.out.2.2 HV.out.2.1.drew HP.out.2.2.2.2 hO7 hg7 hb7 (by simp))
  have f0 : w7.cell? ⟨b, 0, none⟩ = some (.slice A ms.length c) := (blk_cell hb7 0).trans rfl
  have g0 : w7.frozen? ⟨b, 0, none⟩ = false := blk_frozen hb7 0
  have hS7 : (fun W : World => W.cell? ⟨b, 0, none⟩ = some (.slice A ms.length c) ∧ W.rangeAt w5.heap.size 0 cs) w7 := ⟨f0, twice_range HV.out.1 HV.out.2.1 HP.out.2.2.2.2 hg7 Hz5.out⟩
  clear hO7 hg7 hat7 hb7
  refine hK _ _ (fun _ => hS7) ?_
  clear hK K hS6
  try simp only [Act.put, List.setIfInBounds_toArray, List.set_cons_zero, List.set_cons_succ]
  refine anyL_take0 (i := 8) (oi := _) (v := ?_) rfl (by kernel_rfl) (by kernel_rfl) (by kernel_rfl) (fun _ _ _ h => h) (Or.inl ⟨by rfl, ?_⟩) ?_
  rotate_left
  · intro wv
    go_simp
    try with_reducible rfl
  try simp only [Act.put, List.setIfInBounds_toArray, List.set_cons_zero, List.set_cons_succ]
  refine anyL_take0 (i := 9) (oi := _) (v := ?_) rfl (by kernel_rfl) (by kernel_rfl) (by kernel_rfl) (fun _ _ _ h => h) (Or.inl ⟨by rfl, ?_⟩) ?_
  rotate_left
  · intro wv
    go_simp
    try with_reducible rfl
  try simp only [Act.put, List.setIfInBounds_toArray, List.set_cons_zero, List.set_cons_succ]
  refine anyL_one (i := 10) (by kernel_rfl) rfl rfl (fun K hK => ?_)
  go_simp
  refine hK _ _ (fun h => by simp at h) ?_
  clear hK K hS7 f0 g0
  refine anyL_done (by kernel_rfl) ?_ _
  try simp only [Act.put, List.setIfInBounds_toArray, List.set_cons_zero, List.set_cons_succ]
  go_simp
  go_wp2
  go_ret
  exact ⟨rfl, HE.out⟩
end Go.Proofs.Ytjpeaeklhcnpnaa.K
