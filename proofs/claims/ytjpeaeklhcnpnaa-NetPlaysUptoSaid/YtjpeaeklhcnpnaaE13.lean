/- The reference's Send and Twice by contracts. No condition but small numbers. -/
import Derived.Test.YtjpeaeklhcnpnaaE12
namespace Go.Proofs.Ytjpeaeklhcnpnaa.K
open Go.RowKit
set_option linter.unusedVariables false
set_option linter.unusedSimpArgs false
/-- What an append of one message onto the reference's row wants. -/
structure RPre (B : Nat) (w V : World) (F Fk : Nat → Prop) (A : Option Addr) (c : Nat) (ms : List Msg) (y : Msg) (cs : List Value) : Prop where
  own : kMsg.Own 54 (V.alloc (.cells cs.toArray 54)) (fun k => k < B ∨ (F k ∨ w.heap.size ≤ k)) B (.slice A ms.length c) ms
  row : kMsg.C (V.alloc (.cells cs.toArray 54)) (fun k => Fk k ∨ w.heap.size ≤ k) (some ⟨V.heap.size, 0, none⟩) 1 [y]
  far : ∀ k, (Fk k ∨ w.heap.size ≤ k) → k < (V.alloc (.cells cs.toArray 54)).heap.size → (k < B ∨ (F k ∨ w.heap.size ≤ k)) ∧ some k ≠ (Value.slice A ms.length c).ownBlock
  fresh : ∀ k, (V.alloc (.cells cs.toArray 54)).heap.size ≤ k → (k < B ∨ (F k ∨ w.heap.size ≤ k))
  rowF : ∀ k, (Value.slice A ms.length c).ownBlock = some k → F k ∧ k < w.heap.size
  base : B ≤ (V.alloc (.cells cs.toArray 54)).heap.size
theorem rPre {B : Nat} {w V : World} {F Fk : Nat → Prop} {b : Nat} {A : Option Addr} {c : Nat} {ms : List Msg} {y : Msg} {cs : List Value} (h2 : kMsg.Own 54 w (fun k => k < B ∨ F k) B (.slice A ms.length c) ms) (hb : ¬ F b ∧ B ≤ b) (hbw : b < w.heap.size) (hV : Chg w V (fun k => k = b)) (hK : kMsg.K V Fk y cs)
    (hFk : ∀ k, Fk k → (k < B ∨ F k) ∧ some k ≠ (Value.slice A ms.length c).ownBlock) : RPre B w V F Fk A c ms y cs := by
  have hO : ∀ k, (Value.slice A ms.length c).ownBlock = some k → F k ∧ k < w.heap.size := fun k hk => by
    have h1 := h2.1 k hk
    obtain ⟨_, inner, ho, _⟩ := h2
    have h3 := Kd.own_base ho k hk
    exact ⟨h1.resolve_left (by omega), h3.2⟩
  have hsz : (V.alloc (.cells cs.toArray 54)).heap.size = V.heap.size + 1 := by simp
  have hs := hV.size
  refine ⟨?_, ?_, fun k hk hl => ⟨?_, fun he => ?_⟩, fun k hk => .inr (.inr (by rw [hsz] at hk; omega)), hO, by rw [hsz]; omega⟩
  · exact Kd.Own_mono (Kd.Own_move (fun k hk hl => (hV.alloc _).block k hl (fun h => by
      subst h
      rcases hk with hk | hk
      · omega
      · exact hb.1 hk)) h2) (fun k hk => hk.imp id .inl)
  · have hb5 : Below V.heap.size V (V.alloc (.cells cs.toArray 54)) := below_alloc (Below.refl _ _) _
    refine ⟨rfl, by omega, fun _ => ⟨_, rfl, .inr hs, by rw [hsz]; show V.heap.size < _; omega, fun j p hj => ?_⟩⟩
    have h0 : j = 0 := by
      have := (List.getElem?_eq_some_iff.1 hj).1
      simp at this
      exact this
    subst h0
    obtain rfl : y = p := by simpa using hj
    refine ⟨cs, kMsg.mono (fun k hk => .inl hk) (Kd.below hK hb5), fun i u hu => ?_⟩
    rw [Addr.add_mid, blk_cell (blk_new _ _), Nat.zero_mul, Nat.zero_add, Nat.zero_add]
    simpa using hu
  · rcases hk with hk | hk
    · exact (hFk k hk).1.imp id .inl
    · exact .inr (.inr hk)
  · rcases hk with hk | hk
    · exact (hFk k hk).2 he
    · have := hO k he.symm; omega
theorem radd_end {B : Nat} {w V w7 : World} {F : Nat → Prop} {b : Nat} {A A7 : Option Addr} {c c7 n0 n7 : Nat} {ms' : List Msg} {last : Int} {cs : List Value} (hb : ¬ F b ∧ B ≤ b) (hbw : b < w.heap.size) (hV : Chg w V (fun k => k = b))
    (hr : ∀ k, (Value.slice A n0 c).ownBlock = some k → F k ∧ k < w.heap.size) (hO : kMsg.Own 54 w7 (fun k => k < B ∨ (F k ∨ w.heap.size ≤ k)) B (.slice A7 ms'.length c7) ms') (hg : (V.alloc (.cells cs.toArray 54)).grownBy w7 (Value.slice A n0 c).ownBlock)
    (h7 : w7.heap[b]? = some (.cells #[.slice A n0 c, .int .u64 last] 30 (0, 0))) (hn7 : ms'.length = n7) :
    RNetAt B (w7.setCell ⟨b, 0, none⟩ (.slice A7 n7 c7)) (fun k => F k ∨ w.heap.size ≤ k) b ms' last ∧ Chg w (w7.setCell ⟨b, 0, none⟩ (.slice A7 n7 c7)) (fun k => F k ∨ k = b) := by
  subst hn7
  have hne : ∀ k, (k < B ∨ (F k ∨ w.heap.size ≤ k)) → k ≠ b := by
    rintro k hk rfl
    rcases hk with hk | hk | hk
    · have := hb.2; omega
    · exact hb.1 hk
    · omega
  refine ⟨⟨⟨A7, c7, blk_set h7 0 _, Own_set hO _ hne⟩, fun h => hne b (.inr h) rfl, hb.2⟩, ?_⟩
  exact (((hV.alloc _).mono (fun k _ hk => .inr hk)).grown hg (fun k hk => .inl (.inl (hr k hk).1))).set (a := ⟨b, 0, none⟩) (.inl (.inr rfl)) _
theorem radd_range {w V w7 : World} {F : Nat → Prop} {A : Option Addr} {n0 c z : Nat} {cs cs' : List Value} (hr : V.rangeAt z 0 cs) (hO : ∀ k, (Value.slice A n0 c).ownBlock = some k → F k ∧ k < w.heap.size)
    (hg : (V.drew.alloc (.cells cs'.toArray 54)).grownBy w7 (Value.slice A n0 c).ownBlock) (hz : w.heap.size ≤ z) : w7.rangeAt z 0 cs := by
  intro j v hv
  have h1 := hr j v hv
  have hl := World.block_lt_of_cell? V _ h1
  have h2 : w7.heap[z]? = V.heap[z]? := by
    rw [hg.block z (by rw [World.size_alloc]; exact Nat.lt_succ_of_lt hl) (fun e => by have := (hO z e.symm).2; omega)]
    exact Below.heap_alloc _ _ _ hl
  rw [World.cell?_of_block (w := V) h2]
  exact h1
theorem rsend_mid {B : Nat} {w V : World} {b : Nat} {A : Option Addr} {n c : Nat} {last last' : Int} {x : Msg} {d m t k s a g p : Value} (h : w.heap[b]? = some (.cells #[.slice A n c, .int .u64 last] 30 (0, 0))) (hB : B ≤ b)
    (hV : (w.setCell ⟨b, 1, none⟩ (.int .u64 last')).alloc (.cells ((mC x d m t k s a g p).setIfInBounds 3 (.int .u64 last')) 54) = V) (hl : (Lit.int .u64 last').wf = true) (hx : kMsg.K w (fun k => k < B) x (mC x d m t k s a g p).toList) :
    V.heap[b]? = some (.cells #[.slice A n c, .int .u64 last'] 30 (0, 0)) ∧ Chg w V (fun k => k = b) ∧ ∃ cs2 : List Value, V.rangeAt w.heap.size 0 cs2 ∧ kMsg.K V (fun k => k < B) (withId x last') cs2 := by
  subst hV
  have hs := setCell_size w ⟨b, 1, none⟩ (.int .u64 last')
  have hc : Chg w ((w.setCell ⟨b, 1, none⟩ (.int .u64 last')).alloc (.cells ((mC x d m t k s a g p).setIfInBounds 3 (.int .u64 last')) 54)) (fun k => k = b) := ((Chg.refl w (fun k => k = b)).set (a := ⟨b, 1, none⟩) (.inl rfl) _).alloc _
  refine ⟨blk_alloc (blk_set h 1 _) _, hc, (mC (withId x last') d m t k s a g p).toList, ?_, ?_⟩
  · have := blk_new (w.setCell ⟨b, 1, none⟩ (.int .u64 last')) (.cells ((mC x d m t k s a g p).setIfInBounds 3 (.int .u64 last')) 54)
    rw [hs] at this
    exact range_blk this
  · exact kMsg.move (fun k hk hlt => hc.block k hlt (by omega)) (kMsg_id hx (i := last') hl)
theorem rfar {B : Nat} {w : World} {F : Nat → Prop} {A : Option Addr} {c : Nat} {ms : List Msg} (h2 : kMsg.Own 54 w (fun k => k < B ∨ F k) B (.slice A ms.length c) ms) : ∀ k, k < B → (k < B ∨ F k) ∧ some k ≠ (Value.slice A ms.length c).ownBlock := by
  intro k hk
  refine ⟨.inl hk, fun he => ?_⟩
  obtain ⟨_, inner, ho, _⟩ := h2
  have := Kd.own_base ho k he.symm
  omega
theorem rfar2 {B : Nat} {F : Nat → Prop} (g n c : Nat) : ∀ k, ((k < B ∨ F k) ∧ k ≠ g) → (k < B ∨ F k) ∧ some k ≠ (Value.slice (some ⟨g, 0, none⟩) n c).ownBlock := by
  rintro k ⟨h1, h2⟩
  refine ⟨h1, fun he => h2 ?_⟩
  simp only [Value.ownBlock, Option.some.injEq] at he
  exact he
set_option maxHeartbeats 4000000 in
set_option maxRecDepth 100000 in
theorem rsend_any {B : Nat} {w : World} {F : Nat → Prop} {b : Nat} {ms : List Msg} {last : Int} (h : RNetAt B w F b ms last) (x : Msg) (cs : List Value) (hx : kMsg.K w (fun k => k < B) x cs) (hl0 : 0 ≤ last) (hl1 : last ≤ 1000000) (hm : (ms.length + 1) * 456 ≤ 140737488355328) :
    Calls Try.prog 14 #[.pointer (some ⟨b, 0, none⟩), .agg cs.toArray] w fun e w' => e = .returned (.int .u64 (last + 1)) ∧ RNetAt B w' (fun k => F k ∨ w.heap.size ≤ k) b (ms ++ [withId x (last + 1)]) (last + 1) ∧ Chg w w' (fun k => F k ∨ k = b) := by
  have hbw := h.lt
  obtain ⟨⟨A, c, h1, h2⟩, h3, h4⟩ := h
  have HBw := Aside.mk hbw
  have f1 : ∀ o, (w.alloc o).cell? ⟨b, 1, none⟩ = some (.int .u64 last) := fun o => (blk_cell (blk_alloc h1 o) 1).trans rfl
  have g1 : ∀ o, (w.alloc o).frozen? ⟨b, 1, none⟩ = false := fun o => blk_frozen (blk_alloc h1 o) 1
  have HH := Aside.mk (And.intro h1 (And.intro h2 (And.intro h3 h4)))
  have hset := blk_set h1 1 (.int .u64 (last + 1))
  have f2 : ∀ o, ((w.setCell ⟨b, 1, none⟩ (.int .u64 (last + 1))).alloc o).cell? ⟨b, 1, none⟩ = some (.int .u64 (last + 1)) := fun o => (blk_cell (blk_alloc hset o) 1).trans rfl
  have hsz : (w.setCell ⟨b, 1, none⟩ (.int .u64 (last + 1))).heap.size = w.heap.size := setCell_size _ _ _
  obtain ⟨d, m, t, k, s, a, g, p, rfl, hparts⟩ := kMsg_parts hx
  have HX := Aside.mk hx
  have z3 : ((w.setCell ⟨b, 1, none⟩ (.int .u64 (last + 1))).alloc (.cells (mC x d m t k s a g p) 54)).cell? ⟨w.heap.size, 3, none⟩ = some (.int .u64 x.Id) := by
    rw [← hsz]; exact (blk_cell (blk_new _ _) 3).trans rfl
  have y3 : ((w.setCell ⟨b, 1, none⟩ (.int .u64 (last + 1))).alloc (.cells (mC x d m t k s a g p) 54)).frozen? ⟨w.heap.size, 3, none⟩ = false := by
    rw [← hsz]; exact blk_frozen (blk_new _ _) 3
  clear h1 h2 h3 hset hsz hparts hx
  change Calls Try.prog 14 #[.pointer (some ⟨b, 0, none⟩), .agg (mC x d m t k s a g p)] w _
  go_enter Try.func14, Try.ntmps14
  go_upto_region 3 with (fail)
  generalize hV : (w.setCell _ _).alloc _ = V
  obtain ⟨hVb, hVc, cs, hVr, hVk⟩ := rsend_mid HH.out.1 HH.out.2.2.2 hV (u64_wf (by omega) (by omega)) HX.out
  have HVb := Aside.mk hVb
  have HVc := Aside.mk hVc
  have HVr := Aside.mk hVr
  have HVk := Aside.mk hVk
  have HL := Aside.mk (kMsg.len hVk)
  have HFa := Aside.mk (rfar HH.out.2.1)
  clear hV hVb hVc hVr hVk f1 g1 f2 z3 y3 HX
  have hS0 : (fun W : World => W.cell? ⟨b, 0, none⟩ = some (.slice A ms.length c) ∧ W.rangeAt w.heap.size 0 cs) V.drew := ⟨(blk_cell HVb.out 0).trans rfl, HVr.out⟩
  refine region_L (fun W : World => W.cell? ⟨b, 0, none⟩ = some (.slice A ms.length c) ∧ W.rangeAt w.heap.size 0 cs) (fun j => j != 10) (by kernel_rfl) ?_
  try simp only [Act.put, List.setIfInBounds_toArray, List.set_cons_zero, List.set_cons_succ]
  refine anyL_take0 (i := 0) (oi := _) (v := ?_) rfl (by kernel_rfl) (by kernel_rfl) (by kernel_rfl) (fun _ _ _ h => h) (Or.inl ⟨by rfl, ?_⟩) ?_
  rotate_left
  · intro wv
    go_simp
    try with_reducible rfl
  try simp only [Act.put, List.setIfInBounds_toArray, List.set_cons_zero, List.set_cons_succ]
  refine anyL_take0 (i := 1) (oi := _) (v := ?_) rfl (by kernel_rfl) (by kernel_rfl) (by kernel_rfl) (fun _ _ _ h => h) (Or.inl ⟨by rfl, ?_⟩) ?_
  rotate_left
  · intro wv
    go_simp
    try with_reducible rfl
  try simp only [Act.put, List.setIfInBounds_toArray, List.set_cons_zero, List.set_cons_succ]
  refine anyL_take0 (i := 2) (oi := _) (v := ?_) rfl (by kernel_rfl) (by kernel_rfl) (by kernel_rfl) (fun _ _ _ h => h) (Or.inl ⟨by rfl, ?_⟩) ?_
  rotate_left
  · intro wv
    go_simp
    try with_reducible rfl
  try simp only [Act.put, List.setIfInBounds_toArray, List.set_cons_zero, List.set_cons_succ]
  refine anyL_take0 (i := 3) (oi := _) (v := ?_) rfl (by kernel_rfl) (by kernel_rfl) (by kernel_rfl) (fun _ _ _ h => h) (Or.inl ⟨by rfl, ?_⟩) ?_
  rotate_left
  · intro wv
    go_simp
    try with_reducible rfl
  try simp only [Act.put, List.setIfInBounds_toArray, List.set_cons_zero, List.set_cons_succ]
  refine anyL_take (i := 4) (oi := _) (v := ?_) rfl (by kernel_rfl) (by kernel_rfl) (by kernel_rfl) (by kernel_rfl) (fun _ _ _ h => h) (Or.inl ⟨by rfl, ?_⟩) (by assumption) ?_
  rotate_left
  · intro wv hSw
    try dsimp only at hSw
    go_simp
    with_reducible rfl
  try simp only [Act.put, List.setIfInBounds_toArray, List.set_cons_zero, List.set_cons_succ]
  refine anyL_take (i := 5) (oi := _) (v := .agg cs.toArray) rfl (by kernel_rfl) (by kernel_rfl) (by kernel_rfl) (by kernel_rfl) (fun _ _ _ h => h) (yieldsIf_load_mid (by rfl) 54 (.tmp 3) (by rfl) w.heap.size 0 (by rfl) cs _ (fun _ h => h.2) Try.underlying54 rfl (j54 HL.out)) (by assumption) ?_
  try simp only [Act.put, List.setIfInBounds_toArray, List.set_cons_zero, List.set_cons_succ]
  have HP := Aside.mk (rPre (V := V.drew) HH.out.2.1 HH.out.2.2 HBw.out HVc.out.drew (kMsg.move (w := V) (w1 := V.drew) (fun _ _ _ => rfl) HVk.out) HFa.out)
  obtain ⟨i0, hi0, hzz⟩ := Option.map_eq_some_iff.1 info54
  have HZ := Aside.mk hzz
  clear hzz
  refine anyL_one (i := 6) (by kernel_rfl) rfl rfl (fun K hK => ?_)
  refine wp_buildOne 27 54 i0 (.tmp 22) (by rfl) Try.underlying27 hi0 (.agg mZ) zero54 41 (by have := HZ.out; simp only [Prod.mk.injEq] at this; exact this.2.1) rfl (by decide) (by decide) (.agg cs.toArray) (by rfl) (by show cs.toArray.size = 41; rw [List.size_toArray]; exact HL.out) ?_
  clear hi0 HZ
  have hS6 : (fun W : World => W.cell? ⟨b, 0, none⟩ = some (.slice A ms.length c) ∧ W.rangeAt w.heap.size 0 cs) (V.drew.alloc (.cells cs.toArray 54)) := ⟨(blk_cell (blk_alloc (w := V.drew) HVb.out _) 0).trans rfl, World.rangeAt_alloc (w := V.drew) hS0.2 _⟩
  refine hK _ _ (fun _ => hS6) ?_
  clear hK K hS0
  try simp only [Act.put, List.setIfInBounds_toArray, List.set_cons_zero, List.set_cons_succ]
  refine anyL_one (i := 7) (by kernel_rfl) rfl rfl (fun K hK => ?_)
  refine wp_append_row kMsg B (.tmp 21) (.tmp 23) 27 54 (.agg mZ) 456 (by rfl) Try.underlying27 info54 rfl (by decide) (by decide) (.slice A ms.length c) ms [withId x (last + 1)] ⟨V.drew.heap.size, 0, none⟩ 1 1 (fun k => k < B ∨ (F k ∨ w.heap.size ≤ k)) _ (by rfl) (by rfl) HP.out.own HP.out.row HP.out.far HP.out.fresh HP.out.base hm ?_
  intro v1 w7 hO7 hg7 hat7
  obtain ⟨A7, c7, rfl, _, _⟩ := Kd.Own_C hO7
  have hb7 : w7.heap[b]? = some (.cells #[.slice A ms.length c, .int .u64 (last + 1)] 30 (0, 0)) := by
    have hbl := blk_lt HVb.out
    rw [hg7.block b (by rw [World.size_alloc]; exact Nat.lt_succ_of_lt hbl) (fun e => HH.out.2.2.1 (HP.out.rowF b e.symm).1)]
    exact blk_alloc (w := V.drew) HVb.out _
  have HE := Aside.mk (radd_end (n7 := ms.length + 1) HH.out.2.2 HBw.out HVc.out.drew HP.out.rowF hO7 hg7 hb7 (by simp))
  have f0 : w7.cell? ⟨b, 0, none⟩ = some (.slice A ms.length c) := (blk_cell hb7 0).trans rfl
  have g0 : w7.frozen? ⟨b, 0, none⟩ = false := blk_frozen hb7 0
  have f1 : ∀ u, (w7.setCell ⟨b, 0, none⟩ u).cell? ⟨b, 1, none⟩ = some (.int .u64 (last + 1)) := fun u => (blk_cell (blk_set hb7 0 u) 1).trans rfl
  have hS7 : (fun W : World => W.cell? ⟨b, 0, none⟩ = some (.slice A ms.length c) ∧ W.rangeAt w.heap.size 0 cs) w7 := ⟨f0, radd_range HVr.out HP.out.rowF hg7 (Nat.le_refl _)⟩
  clear hO7 hg7 hat7 hb7
  refine hK _ _ (fun _ => hS7) ?_
  clear hK K hS6
  try simp only [Act.put, List.setIfInBounds_toArray, List.set_cons_zero, List.set_cons_succ]
  refine anyL_take0 (i := 8) (oi := _) (v := ?_) rfl (by kernel_rfl) (by kernel_rfl) (by kernel_rfl) (fun _ _ _ h => h) (Or.inl ⟨by rfl, ?_⟩) ?_
  rotate_left
  · intro wv
    go_simp
    try with_reducible rfl
  try simp only [Act.put, List.setIfInBounds_toArray, List.set_cons_zero, List.set_cons_succ]
  refine anyL_take0 (i := 9) (oi := _) (v := ?_) rfl (by kernel_rfl) (by kernel_rfl) (by kernel_rfl) (fun _ _ _ h => h) (Or.inl ⟨by rfl, ?_⟩) ?_
  rotate_left
  · intro wv
    go_simp
    try with_reducible rfl
  try simp only [Act.put, List.setIfInBounds_toArray, List.set_cons_zero, List.set_cons_succ]
  refine anyL_one (i := 10) (by kernel_rfl) rfl rfl (fun K hK => ?_)
  go_simp
  refine hK _ _ (fun h => by simp at h) ?_
  clear hK K hS7 f0 g0
  refine anyL_done (by kernel_rfl) ?_ _
  try simp only [Act.put, List.setIfInBounds_toArray, List.set_cons_zero, List.set_cons_succ]
  go_simp
  go_wp2
  go_ret
  exact ⟨rfl, HE.out⟩
set_option maxHeartbeats 4000000 in
set_option maxRecDepth 100000 in
theorem rtwice_yes {B : Nat} {w : World} {F : Nat → Prop} {b : Nat} {ms : List Msg} {last : Int} (h : RNetAt B w F b ms last) (i : Nat) (hi : i < ms.length) (hm : (ms.length + 1) * 456 ≤ 140737488355328) :
    Calls Try.prog 18 #[.pointer (some ⟨b, 0, none⟩), .int .i64 i] w fun e w' => e = .returned (.bool true) ∧ RNetAt B w' (fun k => F k ∨ w.heap.size ≤ k) b (ms ++ [ms[i]]) last ∧ Chg w w' (fun k => F k ∨ k = b) := by
  have hn := h.fits
  have hbw := h.lt
  obtain ⟨⟨A, c, h1, h2⟩, h3, h4⟩ := h
  rcases Kd.Row_of_Own h2 with ⟨h0, _⟩ | ⟨g, rfl, _, _, hFg, hR⟩
  · rw [h0] at hi; simp at hi
  obtain ⟨cs, hr, hk⟩ := hR.get hi
  obtain ⟨y, hy⟩ : ∃ y, ms[i] = y := ⟨_, rfl⟩
  rw [hy] at hk ⊢
  obtain ⟨A, hA⟩ : ∃ A, A = some (⟨g, 0, none⟩ : Addr) := ⟨_, rfl⟩
  have HBw := Aside.mk hbw
  have HH := Aside.mk (And.intro h1 (And.intro h2 (And.intro h3 h4)))
  have HL := Aside.mk (kMsg.len hk)
  have HO := Aside.mk (kMsg.one hk)
  have HR := Aside.mk hr
  have HK := Aside.mk hk
  have f0 : w.cell? ⟨b, 0, none⟩ = some (.slice (some ⟨g, 0, none⟩) ms.length c) := (blk_cell h1 0).trans rfl
  have hge : ¬ ms.length ≤ i := by omega
  clear h1 h2 h3 hR hFg hr hk hy
  go_enter Try.func18, Try.ntmps18
  go_upto_region 4 with (first
    | (refine wpList_load_mid rfl 54 (.tmp 22) (by rfl) g (i * 41) (by rfl) cs _ HR.out Try.underlying54 rfl (j54 HL.out) ?_)
    | (refine wpList_store_mid rfl 54 (.tmp 5) (.tmp 23) (by rfl) w.heap.size 0 cs.toArray (by rfl) (by rfl) (there_blk (blk_new w _) rfl (by rw [List.size_toArray]; exact HL.out)) (j54 (by rw [List.size_toArray]; exact HL.out)) (all_oneCell_toArray HO.out) ?_))
  generalize hV : (w.alloc _).setCells _ _ _ = V
  have hVr : V.rangeAt w.heap.size 0 cs := by rw [← hV]; exact World.rangeAt_setCells_same _ _ _ _ (there_blk (blk_new w _) rfl (by rw [HL.out]; rfl))
  have hVn : Chg w V NoF := by rw [← hV]; exact Chg.sets (.inr (Nat.le_refl _)) _ _ ((Chg.refl w NoF).alloc _)
  have HVr := Aside.mk hVr
  have HVc := Aside.mk (hVn.mono (G := fun k => k = b) (fun _ _ h => h.elim))
  have HVk := Aside.mk (kMsg.move (fun k hk hl => hVn.block k hl (fun h => h)) HK.out)
  have HVb := Aside.mk (hVn.keeps HH.out.1 (fun h => h))
  have HFa := Aside.mk (rfar2 (B := B) (F := F) g ms.length c)
  clear hV hVr hVn HK HR f0
  rw [← hA] at HH HVb HFa
  clear hA
  have hS0 : (fun W : World => W.cell? ⟨b, 0, none⟩ = some (.slice A ms.length c) ∧ W.rangeAt w.heap.size 0 cs) V.drew := ⟨(blk_cell HVb.out 0).trans rfl, HVr.out⟩
  refine region_L (fun W : World => W.cell? ⟨b, 0, none⟩ = some (.slice A ms.length c) ∧ W.rangeAt w.heap.size 0 cs) (fun j => j != 10) (by kernel_rfl) ?_
  try simp only [Act.put, List.setIfInBounds_toArray, List.set_cons_zero, List.set_cons_succ]
  refine anyL_take0 (i := 0) (oi := _) (v := ?_) rfl (by kernel_rfl) (by kernel_rfl) (by kernel_rfl) (fun _ _ _ h => h) (Or.inl ⟨by rfl, ?_⟩) ?_
  rotate_left
  · intro wv
    go_simp
    try with_reducible rfl
  try simp only [Act.put, List.setIfInBounds_toArray, List.set_cons_zero, List.set_cons_succ]
  refine anyL_take0 (i := 1) (oi := _) (v := ?_) rfl (by kernel_rfl) (by kernel_rfl) (by kernel_rfl) (fun _ _ _ h => h) (Or.inl ⟨by rfl, ?_⟩) ?_
  rotate_left
  · intro wv
    go_simp
    try with_reducible rfl
  try simp only [Act.put, List.setIfInBounds_toArray, List.set_cons_zero, List.set_cons_succ]
  refine anyL_take0 (i := 2) (oi := _) (v := ?_) rfl (by kernel_rfl) (by kernel_rfl) (by kernel_rfl) (fun _ _ _ h => h) (Or.inl ⟨by rfl, ?_⟩) ?_
  rotate_left
  · intro wv
    go_simp
    try with_reducible rfl
  try simp only [Act.put, List.setIfInBounds_toArray, List.set_cons_zero, List.set_cons_succ]
  refine anyL_take0 (i := 3) (oi := _) (v := ?_) rfl (by kernel_rfl) (by kernel_rfl) (by kernel_rfl) (fun _ _ _ h => h) (Or.inl ⟨by rfl, ?_⟩) ?_
  rotate_left
  · intro wv
    go_simp
    try with_reducible rfl
  try simp only [Act.put, List.setIfInBounds_toArray, List.set_cons_zero, List.set_cons_succ]
  refine anyL_take (i := 4) (oi := _) (v := ?_) rfl (by kernel_rfl) (by kernel_rfl) (by kernel_rfl) (by kernel_rfl) (fun _ _ _ h => h) (Or.inl ⟨by rfl, ?_⟩) (by assumption) ?_
  rotate_left
  · intro wv hSw
    try dsimp only at hSw
    go_simp
    with_reducible rfl
  try simp only [Act.put, List.setIfInBounds_toArray, List.set_cons_zero, List.set_cons_succ]
  refine anyL_take (i := 5) (oi := _) (v := .agg cs.toArray) rfl (by kernel_rfl) (by kernel_rfl) (by kernel_rfl) (by kernel_rfl) (fun _ _ _ h => h) (yieldsIf_load_mid (by rfl) 54 (.tmp 5) (by rfl) w.heap.size 0 (by rfl) cs _ (fun _ h => h.2) Try.underlying54 rfl (j54 HL.out)) (by assumption) ?_
  try simp only [Act.put, List.setIfInBounds_toArray, List.set_cons_zero, List.set_cons_succ]
  have HP := Aside.mk (rPre (V := V.drew) HH.out.2.1 HH.out.2.2 HBw.out HVc.out.drew (kMsg.move (w := V) (w1 := V.drew) (fun _ _ _ => rfl) HVk.out) HFa.out)
  obtain ⟨i0, hi0, hzz⟩ := Option.map_eq_some_iff.1 info54
  have HZ := Aside.mk hzz
  clear hzz
  refine anyL_one (i := 6) (by kernel_rfl) rfl rfl (fun K hK => ?_)
  refine wp_buildOne 27 54 i0 (.tmp 29) (by rfl) Try.underlying27 hi0 (.agg mZ) zero54 41 (by have := HZ.out; simp only [Prod.mk.injEq] at this; exact this.2.1) rfl (by decide) (by decide) (.agg cs.toArray) (by rfl) (by show cs.toArray.size = 41; rw [List.size_toArray]; exact HL.out) ?_
  clear hi0 HZ
  have hS6 : (fun W : World => W.cell? ⟨b, 0, none⟩ = some (.slice A ms.length c) ∧ W.rangeAt w.heap.size 0 cs) (V.drew.alloc (.cells cs.toArray 54)) := ⟨(blk_cell (blk_alloc (w := V.drew) HVb.out _) 0).trans rfl, World.rangeAt_alloc (w := V.drew) hS0.2 _⟩
  refine hK _ _ (fun _ => hS6) ?_
  clear hK K hS0
  try simp only [Act.put, List.setIfInBounds_toArray, List.set_cons_zero, List.set_cons_succ]
  refine anyL_one (i := 7) (by kernel_rfl) rfl rfl (fun K hK => ?_)
  refine wp_append_row kMsg B (.tmp 28) (.tmp 30) 27 54 (.agg mZ) 456 (by rfl) Try.underlying27 info54 rfl (by decide) (by decide) (.slice A ms.length c) ms [y] ⟨V.drew.heap.size, 0, none⟩ 1 1 (fun k => k < B ∨ (F k ∨ w.heap.size ≤ k)) _ (by rfl) (by rfl) HP.out.own HP.out.row HP.out.far HP.out.fresh HP.out.base hm ?_
  intro v1 w7 hO7 hg7 hat7
  obtain ⟨A7, c7, rfl, _, _⟩ := Kd.Own_C hO7
  have hb7 : w7.heap[b]? = some (.cells #[.slice A ms.length c, .int .u64 last] 30 (0, 0)) := by
    have hbl := blk_lt HVb.out
    rw [hg7.block b (by rw [World.size_alloc]; exact Nat.lt_succ_of_lt hbl) (fun e => HH.out.2.2.1 (HP.out.rowF b e.symm).1)]
    exact blk_alloc (w := V.drew) HVb.out _
  have HE := Aside.mk (radd_end (n7 := ms.length + 1) HH.out.2.2 HBw.out HVc.out.drew HP.out.rowF hO7 hg7 hb7 (by simp))
  have f0 : w7.cell? ⟨b, 0, none⟩ = some (.slice A ms.length c) := (blk_cell hb7 0).trans rfl
  have g0 : w7.frozen? ⟨b, 0, none⟩ = false := blk_frozen hb7 0
  have f1 : ∀ u, (w7.setCell ⟨b, 0, none⟩ u).cell? ⟨b, 1, none⟩ = some (.int .u64 last) := fun u => (blk_cell (blk_set hb7 0 u) 1).trans rfl
  have hS7 : (fun W : World => W.cell? ⟨b, 0, none⟩ = some (.slice A ms.length c) ∧ W.rangeAt w.heap.size 0 cs) w7 := ⟨f0, radd_range HVr.out HP.out.rowF hg7 (Nat.le_refl _)⟩
  clear hO7 hg7 hat7 hb7
  refine hK _ _ (fun _ => hS7) ?_
  clear hK K hS6
  try simp only [Act.put, List.setIfInBounds_toArray, List.set_cons_zero, List.set_cons_succ]
  refine anyL_take0 (i := 8) (oi := _) (v := ?_) rfl (by kernel_rfl) (by kernel_rfl) (by kernel_rfl) (fun _ _ _ h => h) (Or.inl ⟨by rfl, ?_⟩) ?_
  rotate_left
  · intro wv
    go_simp
    try with_reducible rfl
  try simp only [Act.put, List.setIfInBounds_toArray, List.set_cons_zero, List.set_cons_succ]
  refine anyL_take0 (i := 9) (oi := _) (v := ?_) rfl (by kernel_rfl) (by kernel_rfl) (by kernel_rfl) (fun _ _ _ h => h) (Or.inl ⟨by rfl, ?_⟩) ?_
  rotate_left
  · intro wv
    go_simp
    try with_reducible rfl
  try simp only [Act.put, List.setIfInBounds_toArray, List.set_cons_zero, List.set_cons_succ]
  refine anyL_one (i := 10) (by kernel_rfl) rfl rfl (fun K hK => ?_)
  go_simp
  refine hK _ _ (fun h => by simp at h) ?_
  clear hK K hS7 f0 g0
  refine anyL_done (by kernel_rfl) ?_ _
  try simp only [Act.put, List.setIfInBounds_toArray, List.set_cons_zero, List.set_cons_succ]
  go_simp
  go_wp2
  go_ret
  exact ⟨rfl, HE.out⟩
end Go.Proofs.Ytjpeaeklhcnpnaa.K
