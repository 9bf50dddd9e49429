/- net.Send by a contract. No condition but small numbers. -/
import Derived.Test.YtjpeaeklhcnpnaaD2
import Derived.Test.YtjpeaeklhcnpnaaC8
import Derived.Test.YtjpeaeklhcnpnaaC8
import Derived.Test.YtjpeaeklhcnpnaaC8
import Derived.Test.YtjpeaeklhcnpnaaC8
import Derived.Test.YtjpeaeklhcnpnaaC8
namespace Go.Proofs.Ytjpeaeklhcnpnaa.K
open Go.RowKit
set_option linter.unusedVariables false
set_option linter.unusedSimpArgs false
def withId (x : Msg) (i : Int) : Msg := { x with Id := i }
theorem kMsg_id {w : World} {F : Nat → Prop} {x : Msg} {cs : List Value} (h : kMsg.K w F x cs) {i : Int} (hi : (Lit.int .u64 i).wf = true) : kMsg.K w F (withId x i) (cs.set 3 (.int .u64 i)) := by
  obtain ⟨d, m, t, k, s, a, g, p, rfl, hn, h1, h2, h3, h4, h5, h6⟩ := kMsg_parts h
  obtain ⟨n1, n2, n3, n4, nr⟩ := hn
  exact kMsg_join (x := withId x i) ⟨n1, n2, n3, hi, nr⟩ h1 h2 h3 h4 h5 h6

theorem u64_wf {n : Int} (h0 : 0 ≤ n) (h1 : n ≤ 18446744073709551615) : (Lit.int .u64 n).wf = true := by
  simp only [Lit.wf, Bool.and_eq_true, decide_eq_true_eq]
  exact ⟨h0, h1⟩
theorem info54 : (Try.prog.info? 54).map (fun i => (i.zero, i.size, i.bytes)) = some (some (.agg mZ), kMsg.sz, 456) := by kernel_rfl
theorem zero54 (w : World) : (zeroValue 54).run Try.prog w = .ok (.agg mZ) w := by kernel_rfl
/-- What an append of a new message onto a net's row wants and leaves. -/
structure AppPre (w w5 : World) (F : Nat → Prop) (b z : Nat) (A : Option Addr) (c : Nat) (ms : List Msg) (y : Msg) (cs : List Value) : Prop where
  own : kMsg.Own 54 (w5.alloc (.cells cs.toArray 54)) (fun k => F k ∨ w.heap.size ≤ k) 0 (.slice A ms.length c) ms
  row : kMsg.C (w5.alloc (.cells cs.toArray 54)) (fun k => z < k) (some ⟨w5.heap.size, 0, none⟩) 1 [y]
  far : ∀ k, z < k → k < (w5.alloc (.cells cs.toArray 54)).heap.size → (F k ∨ w.heap.size ≤ k) ∧ some k ≠ (Value.slice A ms.length c).ownBlock
  fresh : ∀ k, (w5.alloc (.cells cs.toArray 54)).heap.size ≤ k → (F k ∨ w.heap.size ≤ k)
  rowF : ∀ k, (Value.slice A ms.length c).ownBlock = some k → F k ∧ k < w.heap.size
theorem appPre {w V w5 : World} {F : Nat → Prop} {b z : Nat} {A : Option Addr} {c : Nat} {ms : List Msg} {y : Msg} {cs : List Value} (h2 : kMsg.Own 54 w F 0 (.slice A ms.length c) ms) (hb : ¬ F b) (hV : Chg w V (fun k => k = b)) (hz : w.heap.size ≤ z) (hzV : V.heap.size = z + 1)
    (hK : kMsg.K w5 (New V) y cs) (h5 : Below V.heap.size V w5) : AppPre w w5 F b z A c ms y cs := by
  have hO : ∀ k, (Value.slice A ms.length c).ownBlock = some k → F k ∧ k < w.heap.size := fun k hk => ⟨h2.1 k hk, by
    obtain ⟨_, inner, ho, _⟩ := h2
    exact (Kd.own_base ho k hk).2⟩
  have hsz : (w5.alloc (.cells cs.toArray 54)).heap.size = w5.heap.size + 1 := by simp
  have h5s := h5.size
  refine ⟨?_, ?_, fun k hk hl => ⟨.inr (by omega), fun he => by have := hO k he.symm; omega⟩, fun k hk => .inr (by rw [hsz] at hk; omega), hO⟩
  · have hw : Chg w (w5.alloc (.cells cs.toArray 54)) (fun k => k = b) := (hV.then_ (Chg.of_below h5 (fun _ => False)) (fun _ _ hf => hf.elim)).alloc _
    exact Kd.Own_mono (Kd.Own_move (fun k hk hl => hw.block k hl (fun e => hb (e ▸ hk))) h2) (fun k hk => .inl hk)
  · have hb5 : Below w5.heap.size w5 (w5.alloc (.cells cs.toArray 54)) := below_alloc (Below.refl _ _) _
    refine ⟨rfl, by omega, fun _ => ⟨_, rfl, by show z < w5.heap.size; omega, by rw [hsz]; show w5.heap.size < _; omega, fun j p hj => ?_⟩⟩
    have h0 : j = 0 := by
      have := (List.getElem?_eq_some_iff.1 hj).1
      simp at this
      exact this
    subst h0
    obtain rfl : y = p := by simpa using hj
    refine ⟨cs, kMsg.mono (fun k hk => by simp only [New] at hk; omega) (Kd.below hK hb5), fun i u hu => ?_⟩
    rw [Addr.add_mid, blk_cell (blk_new _ _), Nat.zero_mul, Nat.zero_add, Nat.zero_add]
    simpa using hu
theorem send_end {w V w5 w7 : World} {F : Nat → Prop} {b : Nat} {A A7 : Option Addr} {c c7 n0 n7 : Nat} {ms' : List Msg} {last' : Int} {cs : List Value} (hb : ¬ F b) (hV : Chg w V (fun k => k = b)) (hVs : V.heap.size = w.heap.size + 1) (h5 : Below V.drew.heap.size V.drew w5)
    (hr : ∀ k, (Value.slice A n0 c).ownBlock = some k → F k ∧ k < w.heap.size) (hO : kMsg.Own 54 w7 (fun k => F k ∨ w.heap.size ≤ k) 0 (.slice A7 ms'.length c7) ms') (hg : (w5.alloc (.cells cs.toArray 54)).grownBy w7 (Value.slice A n0 c).ownBlock)
    (h7 : w7.heap[b]? = some (.cells #[.slice A n0 c, .int .u64 last'] 88 (0, 0))) (hbw : b < w.heap.size) (hn7 : ms'.length = n7) :
    Ending.returned (.int .u64 last') = .returned (.int .u64 last') ∧ NetAt (w7.setCell ⟨b, 0, none⟩ (.slice A7 n7 c7)) (fun k => F k ∨ w.heap.size ≤ k) b ms' last' ∧ Chg w (w7.setCell ⟨b, 0, none⟩ (.slice A7 n7 c7)) (fun k => F k ∨ k = b) := by
  subst hn7
  have hne : ∀ k, (F k ∨ w.heap.size ≤ k) → k ≠ b := by
    rintro k hk rfl
    rcases hk with hk | hk
    · exact hb hk
    · omega
  refine ⟨rfl, ⟨A7, c7, blk_set h7 0 _, Own_set hO _ hne, fun h => hne b h rfl⟩, ?_⟩
  have h1 : Chg w (w5.alloc (.cells cs.toArray 54)) (fun k => k = b) := (hV.drew.then_ (Chg.of_below h5 (fun _ => False)) (fun _ _ hf => hf.elim)).alloc _
  exact ((h1.mono (fun k _ hk => .inr hk)).grown hg (fun k hk => .inl (.inl (hr k hk).1))).set (a := ⟨b, 0, none⟩) (.inl (.inr rfl)) _
theorem send_nil (w : World) (cs : List Value) : Calls Try.prog 13 #[.pointer none, .agg cs.toArray] w fun e w' => e = .returned (.int .u64 0) ∧ Below w.heap.size w w' := by
  go_enter Try.func13, Try.ntmps13
  go_wp2
  go_ret
  exact ⟨rfl, below_alloc (Below.refl _ _) _⟩

theorem send_mid {w V : World} {b : Nat} {A : Option Addr} {n c : Nat} {last last' : Int} {x : Msg} {d m t k s a g p : Value} (h : w.heap[b]? = some (.cells #[.slice A n c, .int .u64 last] 88 (0, 0)))
    (hV : (w.setCell ⟨b, 1, none⟩ (.int .u64 last')).alloc (.cells ((mC x d m t k s a g p).setIfInBounds 3 (.int .u64 last')) 54) = V) :
    V.heap[b]? = some (.cells #[.slice A n c, .int .u64 last'] 88 (0, 0)) ∧ V.heap[w.heap.size]? = some (.cells (mC (withId x last') d m t k s a g p) 54 (0, 0)) ∧ Chg w V (fun k => k = b) ∧ V.heap.size = w.heap.size + 1 := by
  subst hV
  have hs := setCell_size w ⟨b, 1, none⟩ (.int .u64 last')
  refine ⟨blk_alloc (blk_set h 1 _) _, ?_, ((Chg.refl w (fun k => k = b)).set (a := ⟨b, 1, none⟩) (.inl rfl) _).alloc _, by simp [hs]⟩
  have := blk_new (w.setCell ⟨b, 1, none⟩ (.int .u64 last')) (.cells ((mC x d m t k s a g p).setIfInBounds 3 (.int .u64 last')) 54)
  rw [hs] at this
  exact this
theorem range_blk {w : World} {z : Nat} {C : Array Value} {t : TypeId} (h : w.heap[z]? = some (.cells C t (0, 0))) : w.rangeAt z 0 C.toList := fun j v hv => by
  rw [blk_cell h, Nat.zero_add]
  simpa using hv
set_option maxHeartbeats 4000000 in
set_option maxRecDepth 100000 in
theorem send_any {w : World} {F : Nat → Prop} {b : Nat} {ms : List Msg} {last : Int} (h : NetAt w F b ms last) (x : Msg) (cs : List Value) (hx : kMsg.K w (fun k => k ≠ b) x cs) (hl0 : 0 ≤ last) (hl1 : last ≤ 1000000) (hm : (ms.length + 1) * 456 ≤ 140737488355328) :
    Calls Try.prog 13 #[.pointer (some ⟨b, 0, none⟩), .agg cs.toArray] w fun e w' => e = .returned (.int .u64 (last + 1)) ∧ NetAt w' (fun k => F k ∨ w.heap.size ≤ k) b (ms ++ [withId x (last + 1)]) (last + 1) ∧ Chg w w' (fun k => F k ∨ k = b) := by
  obtain ⟨A, c, h1, h2, h3⟩ := h
  have hb := blk_lt h1
  have hcl := kMsg.len hx
  have f1 : ∀ o, (w.alloc o).cell? ⟨b, 1, none⟩ = some (.int .u64 last) := fun o => (blk_cell (blk_alloc h1 o) 1).trans rfl
  have g1 : ∀ o, (w.alloc o).frozen? ⟨b, 1, none⟩ = false := fun o => blk_frozen (blk_alloc h1 o) 1
  have HH := Aside.mk (And.intro h1 (And.intro h2 h3))
  have hset := blk_set h1 1 (.int .u64 (last + 1))
  have f2 : ∀ o, ((w.setCell ⟨b, 1, none⟩ (.int .u64 (last + 1))).alloc o).cell? ⟨b, 1, none⟩ = some (.int .u64 (last + 1)) := fun o => (blk_cell (blk_alloc hset o) 1).trans rfl
  have hsz : (w.setCell ⟨b, 1, none⟩ (.int .u64 (last + 1))).heap.size = w.heap.size := setCell_size _ _ _
  obtain ⟨d, m, t, k, s, a, g, p, rfl, hparts⟩ := kMsg_parts hx
  have HX := Aside.mk hx
  have z3 : ((w.setCell ⟨b, 1, none⟩ (.int .u64 (last + 1))).alloc (.cells (mC x d m t k s a g p) 54)).cell? ⟨w.heap.size, 3, none⟩ = some (.int .u64 x.Id) := by
    rw [← hsz]; exact (blk_cell (blk_new _ _) 3).trans rfl
  have y3 : ((w.setCell ⟨b, 1, none⟩ (.int .u64 (last + 1))).alloc (.cells (mC x d m t k s a g p) 54)).frozen? ⟨w.heap.size, 3, none⟩ = false := by
    rw [← hsz]; exact blk_frozen (blk_new _ _) 3
  clear h1 h2 h3 hset hsz hcl hparts hx
  change Calls Try.prog 13 #[.pointer (some ⟨b, 0, none⟩), .agg (mC x d m t k s a g p)] w _
  go_enter Try.func13, Try.ntmps13
  go_upto_region 5 with (fail)
  generalize hV : (w.setCell _ _).alloc _ = V
  obtain ⟨hVb, hVz, hVc, hVs⟩ := send_mid HH.out.1 hV
  have HV := Aside.mk (And.intro hVb (And.intro hVz (And.intro hVc hVs)))
  have HXI := Aside.mk (kMsg_id HX.out (i := last + 1) (u64_wf (by omega) (by omega)))
  clear hV hVb hVz hVc hVs f1 g1 f2 z3 y3
  have hS0 : (fun W : World => W.cell? ⟨b, 0, none⟩ = some (.slice A ms.length c) ∧ W.rangeAt w.heap.size 0 (mC (withId x (last + 1)) d m t k s a g p).toList) V.drew := ⟨(blk_cell HV.out.1 0).trans rfl, range_blk HV.out.2.1⟩
  refine region_L (fun W : World => W.cell? ⟨b, 0, none⟩ = some (.slice A ms.length c) ∧ W.rangeAt w.heap.size 0 (mC (withId x (last + 1)) d m t k s a g p).toList) (fun j => j != 11) (by kernel_rfl) ?_
  try simp only [Act.put, List.setIfInBounds_toArray, List.set_cons_zero, List.set_cons_succ]
  refine anyL_take0 (i := 0) (oi := _) (v := ?_) rfl (by kernel_rfl) (by kernel_rfl) (by kernel_rfl) (fun _ _ _ h => h) (Or.inl ⟨by rfl, ?_⟩) ?_
  rotate_left
  · intro wv
    go_simp
    try with_reducible rfl
  try simp only [Act.put, List.setIfInBounds_toArray, List.set_cons_zero, List.set_cons_succ]
  refine anyL_take0 (i := 1) (oi := _) (v := ?_) rfl (by kernel_rfl) (by kernel_rfl) (by kernel_rfl) (fun _ _ _ h => h) (Or.inl ⟨by rfl, ?_⟩) ?_
  rotate_left
  · intro wv
    go_simp
    try with_reducible rfl
  try simp only [Act.put, List.setIfInBounds_toArray, List.set_cons_zero, List.set_cons_succ]
  refine anyL_take0 (i := 2) (oi := _) (v := ?_) rfl (by kernel_rfl) (by kernel_rfl) (by kernel_rfl) (fun _ _ _ h => h) (Or.inl ⟨by rfl, ?_⟩) ?_
  rotate_left
  · intro wv
    go_simp
    try with_reducible rfl
  try simp only [Act.put, List.setIfInBounds_toArray, List.set_cons_zero, List.set_cons_succ]
  refine anyL_take0 (i := 3) (oi := _) (v := ?_) rfl (by kernel_rfl) (by kernel_rfl) (by kernel_rfl) (fun _ _ _ h => h) (Or.inl ⟨by rfl, ?_⟩) ?_
  rotate_left
  · intro wv
    go_simp
    try with_reducible rfl
  try simp only [Act.put, List.setIfInBounds_toArray, List.set_cons_zero, List.set_cons_succ]
  refine anyL_take (i := 4) (oi := _) (v := ?_) rfl (by kernel_rfl) (by kernel_rfl) (by kernel_rfl) (by kernel_rfl) (fun _ _ _ h => h) (Or.inl ⟨by rfl, ?_⟩) (by assumption) ?_
  rotate_left
  · intro wv hSw
    try dsimp only at hSw
    go_simp
    with_reducible rfl
  try simp only [Act.put, List.setIfInBounds_toArray, List.set_cons_zero, List.set_cons_succ]
  refine anyL_take (i := 5) (oi := _) (v := .agg (mC (withId x (last + 1)) d m t k s a g p)) rfl (by kernel_rfl) (by kernel_rfl) (by kernel_rfl) (by kernel_rfl) (fun _ _ _ h => h) (yieldsIf_load_mid (by rfl) 54 (.tmp 3) (by rfl) w.heap.size 0 (by rfl) (mC (withId x (last + 1)) d m t k s a g p).toList _ (fun _ h => h.2) Try.underlying54 rfl (j54 rfl)) (by assumption) ?_
  try simp only [Act.put, List.setIfInBounds_toArray, List.set_cons_zero, List.set_cons_succ]
  refine anyL_one (i := 6) (by kernel_rfl) rfl rfl (fun K hK => ?_)
  go_simp
  refine (own_any (withId x (last + 1)) _ V.drew (kMsg.mono (fun _ _ => trivial) (kMsg.move (w1 := V.drew) (fun k hk hl => HV.out.2.2.1.block k hl hk) HXI.out))).mono ?_
  rintro e w5 ⟨cs', rfl, hK5, hb5⟩
  have HP := Aside.mk (appPre (V := V.drew) HH.out.2.1 HH.out.2.2 HV.out.2.2.1.drew (Nat.le_refl _) HV.out.2.2.2 hK5 hb5)
  have HB5 := Aside.mk hb5
  have HL := Aside.mk (kMsg.len hK5)
  have hS5 : (fun W : World => W.cell? ⟨b, 0, none⟩ = some (.slice A ms.length c) ∧ W.rangeAt w.heap.size 0 (mC (withId x (last + 1)) d m t k s a g p).toList) w5 := ⟨(blk_cell (blk_later hb5 HV.out.1) 0).trans rfl, range_blk (blk_later hb5 HV.out.2.1)⟩
  clear hK5 hb5
  refine hK _ _ (fun _ => hS5) ?_
  clear hK K
  try simp only [Act.put, List.setIfInBounds_toArray, List.set_cons_zero, List.set_cons_succ]
  obtain ⟨i0, hi0, hzz⟩ := Option.map_eq_some_iff.1 info54
  have HZ := Aside.mk hzz
  clear hzz
  refine anyL_one (i := 7) (by kernel_rfl) rfl rfl (fun K hK => ?_)
  refine wp_buildOne 27 54 i0 (.tmp 25) (by rfl) Try.underlying27 hi0 (.agg mZ) zero54 41 (by have := HZ.out; simp only [Prod.mk.injEq] at this; exact this.2.1) rfl (by decide) (by decide) (.agg cs'.toArray) (by rfl) (by show cs'.toArray.size = 41; rw [List.size_toArray]; exact HL.out) ?_
  clear hi0 HZ
  have hS6 : (fun W : World => W.cell? ⟨b, 0, none⟩ = some (.slice A ms.length c) ∧ W.rangeAt w.heap.size 0 (mC (withId x (last + 1)) d m t k s a g p).toList) (w5.alloc (.cells cs'.toArray 54)) := ⟨(blk_cell (blk_alloc (blk_later HB5.out HV.out.1) _) 0).trans rfl, range_blk (blk_alloc (blk_later HB5.out HV.out.2.1) _)⟩
  refine hK _ _ (fun _ => hS6) ?_
  clear hK K hS5
  try simp only [Act.put, List.setIfInBounds_toArray, List.set_cons_zero, List.set_cons_succ]
  refine anyL_one (i := 8) (by kernel_rfl) rfl rfl (fun K hK => ?_)
  refine wp_append_row kMsg 0 (.tmp 23) (.tmp 26) 27 54 (.agg mZ) 456 (by rfl) Try.underlying27 info54 rfl (by decide) (by decide) (.slice A ms.length c) ms [withId x (last + 1)] ⟨w5.heap.size, 0, none⟩ 1 1 (fun k => F k ∨ w.heap.size ≤ k) (fun k => w.heap.size < k) (by rfl) (by rfl) HP.out.own HP.out.row HP.out.far HP.out.fresh (Nat.zero_le _) hm ?_
  intro v1 w7 hO7 hg7 hat7
  obtain ⟨A7, c7, rfl, _, _⟩ := Kd.Own_C hO7
  have hN : ∀ k, k < w.heap.size + 1 → (∀ r, (Value.slice A ms.length c).ownBlock = some r → r ≠ k) → w7.heap[k]? = w5.heap[k]? := by
    intro k hk hr
    have hs := HB5.out.size
    have hs2 := HV.out.2.2.2
    have hl : k < w5.heap.size := by simp at hs; omega
    rw [hg7.block k (by simp; omega) (fun e => hr k e.symm rfl)]
    exact Below.heap_alloc _ _ _ hl
  have hb7 : w7.heap[b]? = some (.cells #[.slice A ms.length c, .int .u64 (last + 1)] 88 (0, 0)) := (hN b (by omega) (fun r hr e => HH.out.2.2 (e ▸ (HP.out.rowF r hr).1))).trans (blk_later HB5.out HV.out.1)
  have hz7 : w7.heap[w.heap.size]? = some (.cells (mC (withId x (last + 1)) d m t k s a g p) 54 (0, 0)) := (hN _ (by omega) (fun r hr e => by have := (HP.out.rowF r hr).2; omega)).trans (blk_later HB5.out HV.out.2.1)
  have HE := Aside.mk (send_end HH.out.2.2 HV.out.2.2.1 HV.out.2.2.2 HB5.out HP.out.rowF hO7 hg7 hb7 hb (n7 := ms.length + 1) (by simp))
  have f0 : w7.cell? ⟨b, 0, none⟩ = some (.slice A ms.length c) := (blk_cell hb7 0).trans rfl
  have g0 : w7.frozen? ⟨b, 0, none⟩ = false := blk_frozen hb7 0
  have f1 : ∀ u, (w7.setCell ⟨b, 0, none⟩ u).cell? ⟨b, 1, none⟩ = some (.int .u64 (last + 1)) := fun u => (blk_cell (blk_set hb7 0 u) 1).trans rfl
  have hS7 : (fun W : World => W.cell? ⟨b, 0, none⟩ = some (.slice A ms.length c) ∧ W.rangeAt w.heap.size 0 (mC (withId x (last + 1)) d m t k s a g p).toList) w7 := ⟨f0, range_blk hz7⟩
  clear hO7 hg7 hat7 hN hb7 hz7
  refine hK _ _ (fun _ => hS7) ?_
  clear hK K hS6
  try simp only [Act.put, List.setIfInBounds_toArray, List.set_cons_zero, List.set_cons_succ]
  refine anyL_take0 (i := 9) (oi := _) (v := ?_) rfl (by kernel_rfl) (by kernel_rfl) (by kernel_rfl) (fun _ _ _ h => h) (Or.inl ⟨by rfl, ?_⟩) ?_
  rotate_left
  · intro wv
    go_simp
    try with_reducible rfl
  try simp only [Act.put, List.setIfInBounds_toArray, List.set_cons_zero, List.set_cons_succ]
  refine anyL_take0 (i := 10) (oi := _) (v := ?_) rfl (by kernel_rfl) (by kernel_rfl) (by kernel_rfl) (fun _ _ _ h => h) (Or.inl ⟨by rfl, ?_⟩) ?_
  rotate_left
  · intro wv
    go_simp
    try with_reducible rfl
  try simp only [Act.put, List.setIfInBounds_toArray, List.set_cons_zero, List.set_cons_succ]
  refine anyL_one (i := 11) (by kernel_rfl) rfl rfl (fun K hK => ?_)
  go_simp
  refine hK _ _ (fun h => by simp at h) ?_
  clear hK K hS7 f0 g0
  refine anyL_done (by kernel_rfl) ?_ _
  try simp only [Act.put, List.setIfInBounds_toArray, List.set_cons_zero, List.set_cons_succ]
  go_simp
  go_wp2
  go_ret
  exact ⟨rfl, HE.out.2⟩
end Go.Proofs.Ytjpeaeklhcnpnaa.K
