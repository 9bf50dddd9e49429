/- The reference's rows and what it tells, beside each other in memory. No condition. -/
import Derived.Test.YtjpeaeklhcnpnaaT12
import Derived.Test.YtjpeaeklhcnpnaaR2
namespace Go.Proofs.Ytjpeaeklhcnpnaa.K
open Go.RowKit
set_option linter.unusedVariables false
set_option linter.unusedSimpArgs false
abbrev kU : Kd Int := Kd.int .u64
theorem und79 : Try.prog.underlying 79 = some (.slice 28) := by kernel_rfl
theorem infoU : (Try.prog.info? 28).map (fun i => (i.zero, i.size, i.bytes)) = some (some (.int .u64 0), kU.sz, 8) := by kernel_rfl
/-- What an append of a number wants. -/
structure UPre (w : World) (F : Nat → Prop) (v : Value) (L : List Int) (y : Int) : Prop where
  own : kU.Own 28 (w.alloc (.cells #[.int .u64 y] 28)) (fun k => F k ∨ w.heap.size ≤ k) 0 v L
  row : kU.C (w.alloc (.cells #[.int .u64 y] 28)) (fun k => w.heap.size ≤ k) (some ⟨w.heap.size, 0, none⟩) 1 [y]
  far : ∀ k, w.heap.size ≤ k → k < (w.alloc (.cells #[.int .u64 y] 28)).heap.size → (F k ∨ w.heap.size ≤ k) ∧ some k ≠ v.ownBlock
  fresh : ∀ k, (w.alloc (.cells #[.int .u64 y] 28)).heap.size ≤ k → (F k ∨ w.heap.size ≤ k)
  rowF : ∀ k, v.ownBlock = some k → F k ∧ k < w.heap.size
theorem uPre {w : World} {F : Nat → Prop} {v : Value} {L : List Int} (y : Int) (h2 : kU.Own 28 w F 0 v L) (h3 : (Lit.int .u64 y).wf = true) : UPre w F v L y := by
  have hO : ∀ k, v.ownBlock = some k → F k ∧ k < w.heap.size := fun k hk => ⟨h2.1 k hk, by
    obtain ⟨_, inner, ho, _⟩ := h2
    exact (Kd.own_base ho k hk).2⟩
  have hsz : (w.alloc (.cells #[.int .u64 y] 28)).heap.size = w.heap.size + 1 := by simp
  refine ⟨?_, ?_, fun k hk hl => ⟨.inr hk, fun he => by have := hO k he.symm; omega⟩, fun k hk => .inr (by rw [hsz] at hk; omega), hO⟩
  · exact Kd.Own_mono (Kd.Own_move (fun k hk hl => Below.heap_alloc _ _ _ hl) h2) (fun k hk => .inl hk)
  · refine ⟨rfl, by omega, fun _ => ⟨_, rfl, Nat.le_refl _, by rw [hsz]; show w.heap.size < _; omega, fun j p hj => ?_⟩⟩
    have h0 : j = 0 := by
      have := (List.getElem?_eq_some_iff.1 hj).1
      simp at this
      exact this
    subst h0
    obtain rfl : y = p := by simpa using hj
    refine ⟨[.int .u64 y], ⟨rfl, h3⟩, fun i u hu => ?_⟩
    rw [Addr.add_mid, blk_cell (blk_new _ _), Nat.zero_mul, Nat.zero_add, Nat.zero_add]
    simpa using hu
def rLen (w : World) (b : Nat) : Nat := match w.cell? ⟨b, 0, none⟩ with
  | some (.slice _ n _) => n
  | _ => 0
theorem rLen_eq {w : World} {F : Nat → Prop} {b : Nat} {L : List (Int × Int)} (h : RTimAt w F b L) : rLen w b = L.length := by
  obtain ⟨A, c, h1, _⟩ := h
  unfold rLen
  rw [blk_cell h1]
  rfl
theorem flt_lt {M : List (Int × Int)} {j : Nat} (hj : j < M.length) : (flt M M[j].1).length < M.length := by
  unfold flt
  have h1 : (M.filter fun x => !(x.1 == M[j].1)).length ≤ M.length := List.length_filter_le _ _
  rcases Nat.lt_or_ge (M.filter fun x => !(x.1 == M[j].1)).length M.length with h | h
  · exact h
  · exfalso
    have h2 := List.filter_sublist (p := fun x : Int × Int => !(x.1 == M[j].1)) (l := M)
    have h3 := h2.eq_of_length (by omega)
    have h4 : M[j] ∈ M.filter fun x => !(x.1 == M[j].1) := by rw [h3]; exact List.getElem_mem hj
    have h5 := (List.mem_filter.1 h4).2
    simp at h5
/-- Between two rounds. -/
def ROutAt (w : World) (F0 : Nat → Prop) (b : Nat) (M : List (Int × Int)) (outs : List Int) (v5 : Value) (wr : World) : Prop :=
  ∃ F G : Nat → Prop, RTimAt wr F b M ∧ kU.Own 28 wr G 0 v5 outs ∧ (∀ k, F k → ¬ G k ∧ k < wr.heap.size ∧ (F0 k ∨ w.heap.size ≤ k)) ∧ (∀ k, G k → w.heap.size ≤ k ∧ k < wr.heap.size) ∧ ¬ G b ∧ Chg w wr (fun k => k = b)
theorem rout_start {w : World} {F0 : Nat → Prop} {b : Nat} {L : List (Int × Int)} (h : RTimAt w F0 b L) : ROutAt w F0 b L [] (.slice none 0 0) w :=
  ⟨_, fun _ => False, h.known, Kd.Own_nil _ _ _ _ _, fun k hk => ⟨fun h => h, hk.2, .inl hk.1⟩, fun k h => h.elim, fun h => h, Chg.refl _ _⟩
theorem rout_drawn {w wr wq : World} {F0 : Nat → Prop} {b : Nat} {M : List (Int × Int)} {outs : List Int} {v5 : Value} (h : ROutAt w F0 b M outs v5 wr) (hd : Drawn wr wq) : ROutAt w F0 b M outs v5 wq := by
  obtain ⟨F, G, h1, h2, h3, h4, h5, h6⟩ := h
  have e : wq.heap = wr.heap := hd.1
  exact ⟨F, G, h1.chg (hd.chg NoF) (fun _ _ h => h) (fun h => h), Kd.Own_move (fun k _ _ => by rw [e]) h2, fun k hk => by rw [e]; exact h3 k hk, fun k hk => by rw [e]; exact h4 k hk, h5, h6.then_ (hd.chg NoF) (fun _ _ h => h.elim)⟩
theorem rout_pre {w wr : World} {F0 : Nat → Prop} {b : Nat} {M : List (Int × Int)} {outs : List Int} {v5 : Value} (h : ROutAt w F0 b M outs v5 wr) {id : Int} (hw : (Lit.int .u64 id).wf = true) :
    ∃ F G : Nat → Prop, RTimAt wr F b M ∧ UPre wr G v5 outs id ∧ (∀ k, F k → ¬ G k ∧ k < wr.heap.size ∧ (F0 k ∨ w.heap.size ≤ k)) ∧ (∀ k, G k → w.heap.size ≤ k ∧ k < wr.heap.size) ∧ ¬ G b ∧ Chg w wr (fun k => k = b) := by
  obtain ⟨F, G, h1, h2, h3, h4, h5, h6⟩ := h
  exact ⟨F, G, h1, uPre id h2 hw, h3, h4, h5, h6⟩
/-- Behind the append: the rows are as they were. -/
theorem rout_append {wr w7 : World} {F G : Nat → Prop} {b : Nat} {M : List (Int × Int)} {outs : List Int} {v5 : Value} {id : Int} (h1 : RTimAt wr F b M) (hP : UPre wr G v5 outs id) (hFG : ∀ k, F k → ¬ G k) (hb : ¬ G b) (hg : (wr.alloc (.cells #[.int .u64 id] 28)).grownBy w7 v5.ownBlock) : RTimAt w7 F b M ∧ Chg wr w7 G := by
  have hc : Chg wr w7 G := Chg.grown ((Chg.refl wr G).alloc _) hg (fun k hk => .inl (hP.rowF k hk).1)
  exact ⟨h1.chg hc hFG hb, hc⟩
/-- Behind Stop. -/
theorem rout_stop {w wr w7 w8 : World} {F0 F G : Nat → Prop} {b : Nat} {M : List (Int × Int)} {outs : List Int} {v1 : Value} {id : Int} (hl : RTimAt wr F b M) (hG : ∀ k, G k → w.heap.size ≤ k ∧ k < wr.heap.size) (hGb : ¬ G b) (hcw : Chg w wr (fun k => k = b)) (hc7 : Chg wr w7 G)
    (hO : kU.Own 28 w7 (fun k => G k ∨ wr.heap.size ≤ k) 0 v1 (outs ++ [id])) (h8 : RTimAt w8 (fun k => w7.heap.size ≤ k) b (flt M id)) (hc8 : Chg w7 w8 (fun k => k = b)) : ROutAt w F0 b (flt M id) (outs ++ [id]) v1 w8 := by
  have hbl := hl.lt
  have s1 := hcw.size
  have s2 := hc7.size
  have s3 := hc8.size
  have hne : ∀ k, (G k ∨ wr.heap.size ≤ k) → k ≠ b := by
    rintro k hk rfl
    rcases hk with hk | hk
    · exact hGb hk
    · omega
  refine ⟨_, _, h8.known, Kd.Own_move (fun k hk hkl => hc8.block k hkl (hne k hk.1)) (Kd.Own_lt hO), fun k hk => ⟨fun h => ?_, hk.2, .inr ?_⟩, fun k hk => ⟨?_, by have := hk.2; omega⟩, fun h => hne b h.1 rfl, ?_⟩
  · have h1 := hk.1
    have h2 := h.2
    omega
  · have h1 := hk.1
    omega
  · rcases hk.1 with h | h
    · exact (hG k h).1
    · omega
  · exact (hcw.trans (hc7.trans hc8)).mono (fun k hk h => by
      rcases h with h | h | h
      · exact h
      · have := (hG k h).1; omega
      · exact h)
end Go.Proofs.Ytjpeaeklhcnpnaa.K
