/- Timers and the reference's timers beside each other. No condition. -/
import Derived.Test.YtjpeaeklhcnpnaaT14
import Derived.Test.YtjpeaeklhcnpnaaQ1
namespace Go.Proofs.Ytjpeaeklhcnpnaa.K
open Go.RowKit
set_option linter.unusedVariables false
set_option linter.unusedSimpArgs false
/-- An op's row of cells. -/
structure OpRow (w : World) (b0 o0 k : Nat) (x : Op) (cs : List Value) : Prop where
  at_ : w.rangeAt b0 (o0 + k * 44) cs
  len : cs.length = 44
  one : ∀ v ∈ cs, v.oneCell' = true
  kind : cs[0]? = some (.int .i64 x.Kind)
  i : cs[1]? = some (.int .i64 x.I)
  n : cs[2]? = some (.int .u64 x.N)
  wk : (Lit.int .i64 x.Kind).wf = true
  wi : (Lit.int .i64 x.I).wf = true
  wn : (Lit.int .u64 x.N).wf = true
theorem op_row {w wr : World} {A : Option Addr} {n k : Nat} {xs : List Op} (h : kOp.C w Any A n xs) (hb : Below w.heap.size w wr) (hk : k < xs.length) : ∃ b0 o0 cs, A = some ⟨b0, o0, none⟩ ∧ OpRow wr b0 o0 k xs[k] cs := by
  obtain ⟨ad, rfl, h1, h2, h3, hla, e1, e2, e3⟩ := op_at h hb hk
  obtain ⟨ad', c, he, hF, hlt, hK, hc⟩ := Kd.C_get h hk
  obtain rfl : ad = ad' := by simpa using he
  have hs : ad.spot = none := by
    obtain ⟨ad0, he0, h5, _⟩ := op_at h hb (show 0 < xs.length by omega)
    obtain rfl : ad = ad0 := by simpa using he0
    rw [Nat.zero_mul, show ad.add 0 = ad from rfl] at h5
    unfold World.cell? at h5
    split at h5
    · by_cases h6 : ad.spot.isSome = true
      · rw [if_pos h6] at h5; cases h5
      · simpa using h6
    · cases h5
  obtain ⟨b0, o0, sp⟩ := ad
  simp only at hs
  subst hs
  refine ⟨b0, o0, c, rfl, ⟨fun j u hu => ?_, kOp.len hK, kOp.one hK, ?_, ?_, ?_, e1, e2, e3⟩⟩
  · have h5 := hc j u hu
    have h6 : (⟨b0, o0, none⟩ : Addr).add (k * kOp.sz + j) = ⟨b0, o0 + k * 44 + j, none⟩ := by
      rw [Addr.add_mid, ← Nat.add_assoc]; rfl
    rw [h6] at h5
    rw [hb.cell (p := ⟨b0, o0 + k * 44 + j, none⟩) hlt]
    exact h5
  all_goals
    obtain ⟨c1, c2, rfl, ⟨rfl, _⟩, c3, c4, rfl, ⟨rfl, _⟩, c5, c6, rfl, ⟨rfl, _⟩, _⟩ := hK
    rfl
theorem j56 {n : Nat} (h : n = 44) : (Try.prog.info? 56).map (·.size) = some n := by
  subst h
  kernel_rfl
theorem und56 : ∃ d, Try.prog.underlying 56 = some d := ⟨_, Try.underlying56⟩
theorem op_box {w w0 V : World} {b0 o0 k : Nat} {x : Op} {cur : Array Value} {cs : List Value} (hV : (w.alloc (.cells cur 56)).setCells w.heap.size 0 cs = V) (hc : cur.size = 44) (h : OpRow w0 b0 o0 k x cs) :
    V.cell? ⟨w.heap.size, 0, none⟩ = some (.int .i64 x.Kind) ∧ V.cell? ⟨w.heap.size, 1, none⟩ = some (.int .i64 x.I) ∧ V.cell? ⟨w.heap.size, 2, none⟩ = some (.int .u64 x.N) ∧ Below w.heap.size w V ∧ w.heap.size < V.heap.size := by
  subst hV
  have hr : ((w.alloc (.cells cur 56)).setCells w.heap.size 0 cs).rangeAt w.heap.size 0 cs := World.rangeAt_setCells_same _ _ _ _ (there_blk (blk_new w _) hc h.len)
  have hb := below_setCells (Nat.le_refl _) cs 0 _ (below_alloc (Below.refl w.heap.size w) (.cells cur 56))
  refine ⟨hr 0 _ h.kind, hr 1 _ h.i, hr 2 _ h.n, hb, ?_⟩
  have := (below_setCells (w := w.alloc (.cells cur 56)) (Nat.zero_le _) cs 0 _ (Below.refl 0 _) : Below 0 _ ((w.alloc (.cells cur 56)).setCells w.heap.size 0 cs)).size
  rw [World.size_alloc] at this
  omega
structure TPlace (w : World) (tb mb rb : Nat) (F : Nat → Prop) : Prop where
  hF : ∀ k, F k → w.heap.size ≤ k ∧ k ≠ tb ∧ k ≠ mb
  ht : w.heap.size ≤ tb
  hm : w.heap.size ≤ mb
  hr : w.heap.size ≤ rb
  tr : tb ≠ rb
  mr : mb ≠ rb
structure TAt (w : World) (tb mb rb i : Nat) (F : Nat → Prop) (g : Int → Option Int) (L : List (Int × Int)) (n sz : Nat) (wr : World) : Prop where
  rep : Rep g L
  hl : L.length ≤ i
  hs : sz ≤ i
  hn : n ≤ i
  tim : TimAt wr tb mb n sz g
  ref : RTimAt wr F rb L
  place : TPlace w tb mb rb F
  below : Below w.heap.size w wr
def TLoop (w : World) (tb mb rb i : Nat) (wr : World) : Prop := ∃ (F : Nat → Prop) (g : Int → Option Int) (L : List (Int × Int)) (n sz : Nat), TAt w tb mb rb i F g L n sz wr
section
variable {w wr V w4 w5 : World} {tb mb rb i n sz n' sz' : Nat} {F : Nat → Prop} {g g' : Int → Option Int} {L L' : List (Int × Int)}
theorem t_begin {w1 w2 : World} (hB1 : Below w.heap.size w w1) (hT : TimAt w2 (w1.heap.size + 1) w1.heap.size 0 0 (fun _ => none)) (hB2 : Below w1.heap.size w1 w2) : TLoop w (w1.heap.size + 1) w1.heap.size w2.heap.size 0 (w2.alloc (.cells #[.slice none 0 0] 86)) := by
  have s1 := hB1.size
  have s2 := hT.lt
  exact ⟨fun _ => False, _, [], 0, 0, rep_start, Nat.le_refl _, Nat.le_refl _, Nat.le_refl _, hT.chg (Chg.alloc (Chg.refl w2 NoF) _) (fun h => h) (fun h => h), ⟨none, 0, blk_new _ _, Kd.Own_nil _ _ _ _ _, fun h => h⟩, ⟨fun k h => h.elim, by omega, s1, by omega, by omega, by omega⟩, below_alloc (below_self hB1 hB2) _⟩
theorem TAt.known (h : TAt w tb mb rb i F g L n sz wr) : TAt w tb mb rb i (fun k => F k ∧ k < wr.heap.size) g L n sz wr := ⟨h.rep, h.hl, h.hs, h.hn, h.tim, h.ref.known, ⟨fun k hk => h.place.hF k hk.1, h.place.ht, h.place.hm, h.place.hr, h.place.tr, h.place.mr⟩, h.below⟩
theorem TAt.later (h : TAt w tb mb rb i F g L n sz wr) (hc : Chg wr V NoF) : TAt w tb mb rb i F g L n sz V :=
  ⟨h.rep, h.hl, h.hs, h.hn, h.tim.chg hc (fun h => h) (fun h => h), h.ref.chg hc (fun _ _ h => h) (fun h => h), h.place, h.below.trans (hc.below h.below.size fun k hk => hk.elim)⟩
theorem TAt.loop (h : TAt w tb mb rb i F g L n sz wr) : TLoop w tb mb rb i wr := ⟨F, g, L, n, sz, h⟩
/-- The reference behind the program's step. -/
theorem TAt.mid (h : TAt w tb mb rb i F g L n sz V) (hc : Chg V w4 (fun k => k = mb)) : RTimAt w4 F rb L := h.ref.chg hc (fun k hk => (h.place.hF k hk).2.2) (fun e => h.place.mr e.symm)
/-- Both steps. -/
theorem TAt.step {F' : Nat → Prop} (h : TAt w tb mb rb i F g L n sz V) (hT : TimAt w4 tb mb n' sz' g') (hc4 : Chg V w4 (fun k => k = mb)) (hR : RTimAt w5 F' rb L') (hc5 : Chg w4 w5 (fun k => k = rb)) (hF' : ∀ k, F' k → F k ∨ w4.heap.size ≤ k) (hrep : Rep g' L') (h1 : L'.length ≤ i + 1) (h2 : sz' ≤ i + 1) (h3 : n' ≤ i + 1) : TLoop w tb mb rb (i + 1) w5 := by
  have s0 := h.below.size
  have s4 := hc4.size
  have t1 := h.tim.lt
  have t2 := h.tim.map.lt
  have t3 := h.place.mr
  refine ⟨F', g', L', n', sz', hrep, h1, h2, h3, hT.chg hc5 h.place.tr h.place.mr, hR, ⟨fun k hk => ?_, h.place.ht, h.place.hm, h.place.hr, h.place.tr, h.place.mr⟩, ?_⟩
  · rcases hF' k hk with h' | h'
    · exact h.place.hF k h'
    · exact ⟨by omega, by omega, by omega⟩
  · exact (h.below.trans (hc4.below s0 fun k e => e ▸ h.place.hm)).trans (hc5.below (by omega) fun k e => e ▸ h.place.hr)
theorem tloop_drawn (h : TLoop w tb mb rb i wr) (hd : Drawn wr V) : TLoop w tb mb rb i V := by
  obtain ⟨F, g, L, n, sz, h⟩ := h
  exact (h.later (hd.chg NoF)).loop
end
/-- What the program told, as the loop that compares reads it. -/
theorem told_a {V w4 w5 : World} {rb : Nat} {v : Value} {out : List Int} (hu : USl w4 (fun k => V.heap.size ≤ k) v out) (hc : Chg w4 w5 (fun k => k = rb)) (hr : rb < V.heap.size) : ∃ A c, v = .slice A out.length c ∧ out.length ≤ 9223372036854775807 ∧ ∀ k (hk : k < out.length), ∃ gb off, A = some ⟨gb, off, none⟩ ∧ w5.cell? ⟨gb, off + k, none⟩ = some (.int .u64 out[k]) := by
  rcases hu with ⟨rfl, rfl⟩ | ⟨gb, off, cap, rfl, hg, hU⟩
  · exact ⟨none, 0, rfl, Nat.zero_le _, fun k hk => by simp at hk⟩
  · exact ⟨_, cap, rfl, Nat.le_trans hU.len hU.fit, fun k hk => ⟨gb, off, rfl, (hU.same (hc.block gb hU.lt (by omega))).at_ k _ (List.getElem?_eq_getElem hk)⟩⟩
theorem told_b {w4 w5 : World} {F0 : Nat → Prop} {rb : Nat} {M : List (Int × Int)} {v : Value} {out : List Int} (h : ROutAt w4 F0 rb M out v w5) : ∃ A c, v = .slice A out.length c ∧ ∀ k (hk : k < out.length), ∃ gb, A = some ⟨gb, 0, none⟩ ∧ w5.cell? ⟨gb, k, none⟩ = some (.int .u64 out[k]) := by
  obtain ⟨F, G, _, h2, _⟩ := h
  obtain ⟨A, c, rfl, hl, hC⟩ := Kd.Own_C h2
  refine ⟨A, c, rfl, fun k hk => ?_⟩
  rcases Kd.Row_of_Own h2 with ⟨h0, _⟩ | ⟨gb, rfl, _, _, hg, hR⟩
  · rw [h0] at hk; simp at hk
  · obtain ⟨cs, hr, hK⟩ := hR.get hk
    obtain ⟨rfl, _⟩ := hK
    have h5 := hr 0 _ rfl
    have e : k * kU.sz + 0 = k := by show k * 1 + 0 = k; omega
    rw [e] at h5
    exact ⟨gb, rfl, h5⟩
end Go.Proofs.Ytjpeaeklhcnpnaa.K
