/- net.Due by a contract: the timers that are due, in their order, are told and taken out. No condition but that the timers are few. -/
import Derived.Test.YtjpeaeklhcnpnaaT8
namespace Go.Proofs.Ytjpeaeklhcnpnaa.K
open Go.RowKit Go.Sort
set_option linter.unusedVariables false
set_option linter.unusedSimpArgs false
/-- Timers taken out. -/
def gdel (g : Int → Option Int) (ks : List Int) : Int → Option Int := fun k => if k ∈ ks then none else g k
/-- What Due tells. -/
structure DueList (g : Int → Option Int) (now : Int) (out : List Int) : Prop where
  asc : out.Pairwise (TLt g)
  wf : ∀ k ∈ out, (Lit.int .u64 k).wf = true
  mem : ∀ k, (Lit.int .u64 k).wf = true → (k ∈ out ↔ (g k).isSome = true ∧ atOf g k ≤ now)
theorem parted_of (g : Int → Option Int) (now : Int) : ∀ ks : List Int, ks.Pairwise (TLt g) → (∀ k ∈ ks, (Lit.int .u64 k).wf = true) → ∃ m, Parted g now ks m
  | [], _, _ => ⟨0, Nat.le_refl _, fun k hk => by simp at hk, fun i hi => by simp at hi, fun i hi => by simp at hi⟩
  | k :: ks, hp, hw => by
    obtain ⟨hp1, hp2⟩ := List.pairwise_cons.1 hp
    by_cases h : now < atOf g k
    · refine ⟨0, Nat.zero_le _, hw, fun i hi h0 => by omega, fun i hi _ => ?_⟩
      cases i with
      | zero => exact h
      | succ i =>
        have h1 := hp1 ((k :: ks)[i + 1]) (by simp only [List.getElem_cons_succ]; exact List.getElem_mem _)
        unfold TLt at h1
        omega
    · obtain ⟨m, hm⟩ := parted_of g now ks hp2 (fun x hx => hw x (List.mem_cons_of_mem _ hx))
      refine ⟨m + 1, by simp only [List.length_cons]; have := hm.le; omega, hw, fun i hi hlt => ?_, fun i hi hge => ?_⟩
      · cases i with
        | zero => exact h
        | succ i => simp only [List.getElem_cons_succ]; exact hm.due i (by simpa using hi) (by omega)
      · cases i with
        | zero => omega
        | succ i => simp only [List.getElem_cons_succ]; exact hm.late i (by simpa using hi) (by omega)
theorem due_of {g : Int → Option Int} {now : Int} {ks : List Int} {m : Nat} (hs : TSorted g ks) (hP : Parted g now ks m) : DueList g now (ks.take m) := by
  refine ⟨hs.asc.sublist (List.take_sublist _ _), fun k hk => hs.wf k (List.mem_of_mem_take hk), fun k hk => ?_⟩
  rw [← hs.mem k hk]
  constructor
  · intro h
    obtain ⟨i, hi, e⟩ := List.mem_iff_getElem.1 h
    rw [List.length_take] at hi
    rw [List.getElem_take] at e
    have := hP.due i (by omega) (by omega)
    rw [e] at this
    exact ⟨List.mem_of_mem_take h, by omega⟩
  · rintro ⟨h, hle⟩
    obtain ⟨i, hi, e⟩ := List.mem_iff_getElem.1 h
    have h1 : i < m := by
      apply Classical.byContradiction
      intro hc
      have := hP.late i hi (by omega)
      rw [e] at this
      omega
    refine List.mem_iff_getElem.2 ⟨i, by rw [List.length_take]; omega, ?_⟩
    rw [List.getElem_take]
    exact e
theorem gdel_nil (g : Int → Option Int) : gdel g [] = g := by funext k; simp [gdel]
theorem gdel_step (g : Int → Option Int) (ks : List Int) (i : Nat) (hi : i < ks.length) : gdrop (gdel g (ks.take i)) ks[i] = gdel g (ks.take (i + 1)) := by
  have e2 : ks.take (i + 1) = ks.take i ++ [ks[i]] := by rw [List.take_add_one, List.getElem?_eq_getElem hi]; rfl
  funext k
  unfold gdrop gdel
  rw [e2]
  generalize ks.take i = l
  generalize ks[i] = x
  simp only [List.mem_append, List.mem_singleton]
  by_cases e : k = x
  · simp [e]
  · simp [e]
/-- Between two rounds of the loop that takes out. -/
structure DLoop (w2 : World) (tb mb n sz : Nat) (g : Int → Option Int) (out : List Int) (i : Nat) (wr : World) : Prop where
  tim : ∃ sz', sz' ≤ sz ∧ TimAt wr tb mb n sz' (gdel g (out.take i))
  chg : Chg w2 wr (fun k => k = mb)
theorem due_begin {W V0 : World} {tb mb n sz : Nat} {g : Int → Option Int} {now : Int} (h : TimAt W tb mb n sz g) (hV : (W.alloc (.cells #[.pointer (some ⟨tb, 0, none⟩)] 76)).alloc (.cells #[.int .i64 now] 3) = V0) :
    DueAt V0 tb mb n sz g W.heap.size (W.heap.size + 1) now ∧ Cls W V0 ∧ V0.heap.size = W.heap.size + 2 := by
  subst hV
  have hc : Cls W ((W.alloc (.cells #[.pointer (some ⟨tb, 0, none⟩)] 76)).alloc (.cells #[.int .i64 now] 3)) := ((Cls.refl W).alloc _).alloc _
  refine ⟨⟨h.cls hc, ?_, ?_⟩, hc, by simp⟩
  · rw [blk_cell (blk_alloc (blk_new W _) _)]; rfl
  · have := blk_new (W.alloc (.cells #[.pointer (some ⟨tb, 0, none⟩)] 76)) (.cells #[.int .i64 now] 3)
    rw [World.size_alloc] at this
    rw [blk_cell this]; rfl
theorem dloop_cells {w2 wr : World} {tb mb n sz i gb off cap : Nat} {g : Int → Option Int} {out : List Int} (hL : DLoop w2 tb mb n sz g out i wr) (hU : URow w2 gb off cap out) (hg : gb ≠ mb) (hi : i < out.length) : wr.cell? ⟨gb, off + i, none⟩ = some (.int .u64 out[i]) :=
  (hU.same (hL.chg.block gb hU.lt hg)).at_ i _ (List.getElem?_eq_getElem hi)
theorem dloop_step {w2 wr : World} {tb mb n sz i : Nat} {g : Int → Option Int} {out : List Int} (hL : DLoop w2 tb mb n sz g out i wr) (hi : i < out.length) (hw : (Lit.int .u64 out[i]).wf = true) :
    ∃ w', (Builtin.delete_ #[75, 28] 0 #[.map (some mb), .int .u64 out[i]]).run Try.prog wr = .ok (.tuple #[]) w' ∧ DLoop w2 tb mb n sz g out (i + 1) w' := by
  obtain ⟨⟨s1, hs1, ht⟩, hc⟩ := hL
  obtain ⟨w', s2, h1, h0, h2, h3⟩ := ht.drop hw 0
  rw [gdel_step g out i hi] at h2
  exact ⟨w', h1, ⟨s2, by omega, h2⟩, hc.then_ h3 (fun k _ e => e)⟩
theorem due_end {W w1 w2 wr : World} {B tb mb n sz : Nat} {g : Int → Option Int} {now : Int} {v : Value} {out : List Int} (h : TimAt W tb mb n sz g) (hB : W.heap.size ≤ B) (hb1 : Below W.heap.size W w1) (hb2 : Below B w1 w2) (hd : DueList g now out) (hu : USl w2 (fun k => B ≤ k) v out) (hL : DLoop w2 tb mb n sz g out out.length wr) :
    ∃ v' out' sz', Ending.returned v = .returned v' ∧ DueList g now out' ∧ USl wr (fun k => W.heap.size ≤ k) v' out' ∧ sz' ≤ sz ∧ TimAt wr tb mb n sz' (gdel g out') ∧ Chg W wr (fun k => k = mb) := by
  obtain ⟨⟨s1, hs1, ht⟩, hc⟩ := hL
  rw [List.take_length] at ht
  have hm := h.map.lt
  refine ⟨v, out, s1, rfl, hd, (hu.mono (fun k hk => Nat.le_trans hB hk)).same (fun k hk hl => hc.block k hl (fun e => by omega)), hs1, ht, ?_⟩
  exact (Chg.of_below (hb1.trans (hb2.mono hB)) (fun k => k = mb)).then_ hc (fun k _ e => e)
set_option maxHeartbeats 4000000 in
set_option maxRecDepth 100000 in
theorem due29 {W : World} {tb mb n sz : Nat} {g : Int → Option Int} {now : Int} (h : TimAt W tb mb n sz g) (hsz : sz ≤ 1000) :
    Calls Try.prog 29 #[.pointer (some ⟨tb, 0, none⟩), .int .i64 now] W fun e w' => ∃ v out sz', e = .returned v ∧ DueList g now out ∧ USl w' (fun k => W.heap.size ≤ k) v out ∧ sz' ≤ sz ∧ TimAt w' tb mb n sz' (gdel g out) ∧ Chg W w' (fun k => k = mb) := by
  have H := Aside.mk h
  have hlt := h.lt
  have c1 := h.cell
  clear h
  go_enter Try.func29, Try.ntmps29
  go_wp2_with fail
  generalize hV0 : (W.alloc _).alloc _ = V0
  obtain ⟨hD0, hC0, hz0⟩ := due_begin H.out hV0
  refine (callsIn_wide.1 (T.keys_in Fence.wide 1 trivial rfl (some mb) V0)).mono ?_
  rintro e V1 ⟨rfl, hV1⟩
  have hC1 : Cls W V1 := by rw [hV1]; exact hC0.alloc _
  have hD1 : DueAt V1 tb mb n sz g W.heap.size (W.heap.size + 1) now := hD0.cls (by rw [hV1]; exact (Cls.refl _).alloc _)
  have hm1 : V1.cell? ⟨V0.heap.size, 0, none⟩ = some (.map (some mb)) := by rw [hV1, blk_cell (blk_new V0 _)]; rfl
  rw [hz0] at hm1
  have HS := Aside.mk (sorted41 hD1.tim hD1.c2 hm1 hsz)
  have hB1 : W.heap.size ≤ V1.heap.size := hC1.below.size
  have HD1 := Aside.mk (And.intro hC1 hD1)
  clear hV0 hV1 hD0 hC0 hC1 hD1 hm1 c1
  go_wp2_with fail
  refine HS.out.mono ?_
  rintro e w1 ⟨v, ks, rfl, hs, hu, hb⟩
  obtain ⟨m, hP⟩ := parted_of g now ks hs.asc hs.wf
  have hD2 : DueAt w1 tb mb n sz g W.heap.size (W.heap.size + 1) now := ⟨⟨(hb.block tb HD1.out.2.tim.lt).trans HD1.out.2.tim.box, HD1.out.2.tim.map.same (hb.block mb HD1.out.2.tim.map.lt)⟩, (World.cell?_of_block (a := ⟨W.heap.size, 0, none⟩) (hb.block _ (cell_lt HD1.out.2.c2))).trans HD1.out.2.c2, (World.cell?_of_block (a := ⟨W.heap.size + 1, 0, none⟩) (hb.block _ (cell_lt HD1.out.2.c3))).trans HD1.out.2.c3⟩
  have HX := Aside.mk (delete47 hD2 hb.size hu hP)
  have HDU := Aside.mk (due_of hs hP)
  have HB1 := Aside.mk (HD1.out.1.below.trans (hb.mono hB1))
  have hc2 := hD2.c2
  have HD2 := Aside.mk hD2
  generalize hout : ks.take m = out at HX HDU
  clear hs hu hb hP hD2 hout HS
  go_wp2_with fail
  refine HX.out.mono ?_
  rintro e w2 ⟨v', rfl, hu2, hb2⟩
  have hc3 : w2.cell? ⟨W.heap.size, 0, none⟩ = some (.pointer (some ⟨tb, 0, none⟩)) := (World.cell?_of_block (a := ⟨W.heap.size, 0, none⟩) (hb2.block _ (cell_lt HD1.out.2.c2))).trans hc2
  have hT2 : TimAt w2 tb mb n sz g := ⟨(hb2.block tb HD1.out.2.tim.lt).trans HD2.out.tim.box, HD2.out.tim.map.same (hb2.block mb HD1.out.2.tim.map.lt)⟩
  have hL0 : DLoop w2 tb mb n sz g out 0 w2 := ⟨⟨sz, Nat.le_refl _, by rw [List.take_zero, gdel_nil]; exact hT2⟩, Chg.refl _ _⟩
  have HL0 := Aside.mk hL0
  have hmb := H.out.map.lt
  rcases hu2 with ⟨rfl, rfl⟩ | ⟨gb, off, cap, rfl, hgb, hU⟩
  · have HE := Aside.mk (due_end H.out hB1 HB1.out hb2 HDU.out (.inl ⟨rfl, rfl⟩) hL0)
    clear hb2 hT2 hL0 hc2 hc3
    go_wp2
    refine wp_loop_rounds 1 ?_
    rw [rounds_succ]
    go_wp2
    go_ret
    exact HE.out
  · have HE := Aside.mk (fun wr hL => due_end (wr := wr) H.out hB1 HB1.out hb2 HDU.out (.inr ⟨gb, off, cap, rfl, hgb, hU⟩) hL)
    have hfit : out.length ≤ 9223372036854775807 := Nat.le_trans hU.len hU.fit
    have HU := Aside.mk hU
    have hgm : gb ≠ mb := by omega
    clear hb2 hT2 hL0 hc2 hU
    go_wp2
    go_loopw [22] (fun v22 wr => ∃ i : Nat, i ≤ out.length ∧ v22 = .int .i64 i ∧ Aside (DLoop w2 tb mb n sz g out i wr)) (fun v22 _ => out.length - (intOf v22).toNat)
    case atStart => exact ⟨0, Nat.zero_le _, rfl, HL0⟩
    case round =>
      obtain ⟨i, hi, rfl, HL⟩ := hrel
      by_cases hlt2 : i < out.length
      · have f1 := dloop_cells HL.out HU.out hgm hlt2
        obtain ⟨sz1, _, ht1⟩ := HL.out.tim
        have c1 := ht1.cell
        have c2 : wr.cell? ⟨W.heap.size, 0, none⟩ = some (.pointer (some ⟨tb, 0, none⟩)) := (World.cell?_of_block (a := ⟨W.heap.size, 0, none⟩) (HL.out.chg.block _ (cell_lt hc3) (fun e => by have : W.heap.size = mb := e; omega))).trans hc3
        obtain ⟨w3, hrun, hL3⟩ := dloop_step HL.out hlt2 (HDU.out.wf _ (List.getElem_mem hlt2))
        have HL3 := Aside.mk hL3
        generalize hx : out[i] = x at f1 hrun
        clear hx ht1 hL3
        go_wp2
        go_round
        case rel => exact ⟨i + 1, by omega, rfl, HL3⟩
        case measure => simp only [intOf]; omega
      · obtain rfl : i = out.length := by omega
        go_wp2
        go_ret
        exact HE.out wr HL.out
end Go.Proofs.Ytjpeaeklhcnpnaa.K
