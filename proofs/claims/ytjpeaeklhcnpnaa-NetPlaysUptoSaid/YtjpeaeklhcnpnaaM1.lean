/- NetPlays: ops in a box, the two nets beside each other. No condition but small numbers. -/
import Derived.Test.YtjpeaeklhcnpnaaO2
import Derived.Test.YtjpeaeklhcnpnaaE10
import Derived.Test.YtjpeaeklhcnpnaaE13
import Derived.Deep.CutBlock
namespace Go.Proofs.Ytjpeaeklhcnpnaa.K
open Go.RowKit
set_option linter.unusedVariables false
set_option linter.unusedSimpArgs false
/-- An op's row of cells; what its message reaches lies below B. -/
structure OpM (B : Nat) (w : World) (b0 o0 k : Nat) (x : Op) (cs : List Value) : Prop where
  at_ : w.rangeAt b0 (o0 + k * 44) cs
  len : cs.length = 44
  one : ∀ v ∈ cs, v.oneCell' = true
  kind : cs[0]? = some (.int .i64 x.Kind)
  i : cs[1]? = some (.int .i64 x.I)
  wk : (Lit.int .i64 x.Kind).wf = true
  wi : (Lit.int .i64 x.I).wf = true
  msg : kMsg.K w (fun j => j < B) x.M (cs.drop 3)
theorem opM_row {w wr : World} {A : Option Addr} {n k : Nat} {xs : List Op} (h : kOp.C w Any A n xs) (hb : Below w.heap.size w wr) (hk : k < xs.length) : ∃ b0 o0 cs, A = some ⟨b0, o0, none⟩ ∧ OpM w.heap.size wr b0 o0 k xs[k] cs := by
  obtain ⟨ad, rfl, h1, h2, h3, hla, e1, e2, e3⟩ := op_at h hb hk
  obtain ⟨ad', c, he, hF, hlt, hK, hc⟩ := Kd.C_get h hk
  obtain rfl : ad = ad' := by simpa using he
  have hs : ad.spot = none := by
    obtain ⟨ad0, he0, h5, _⟩ := op_at h hb (show 0 < xs.length by omega)
    obtain rfl : ad = ad0 := by simpa using he0
    rw [Nat.zero_mul, show ad.add 0 = ad from rfl] at h5
    unfold World.cell? at h5
    split at h5
    · by_cases h6 : ad.spot.isSome = true
      · rw [if_pos h6] at h5; cases h5
      · simpa using h6
    · cases h5
  obtain ⟨b0, o0, sp⟩ := ad
  simp only at hs
  subst hs
  refine ⟨b0, o0, c, rfl, ⟨fun j u hu => ?_, kOp.len hK, kOp.one hK, ?_, ?_, e1, e2, ?_⟩⟩
  · have h5 := hc j u hu
    have h6 : (⟨b0, o0, none⟩ : Addr).add (k * kOp.sz + j) = ⟨b0, o0 + k * 44 + j, none⟩ := by
      rw [Addr.add_mid, ← Nat.add_assoc]; rfl
    rw [h6] at h5
    rw [hb.cell (p := ⟨b0, o0 + k * 44 + j, none⟩) hlt]
    exact h5
  all_goals
    obtain ⟨c1, c2, rfl, ⟨rfl, _⟩, c3, c4, rfl, ⟨rfl, _⟩, c5, c6, rfl, ⟨rfl, _⟩, hM⟩ := hK
  · rfl
  · rfl
  · have hM' : kMsg.K w Any xs[k].M c6 := hM
    exact Kd.below (kMsg.mono (fun j hj => hj.2) (kMsg.lt hM')) hb
theorem jj56 {n : Nat} (h : n = 44) : (Try.prog.info? 56).map (·.size) = some n := by
  subst h
  kernel_rfl
theorem j40 {n : Nat} (h : n = 6) : (Try.prog.info? 40).map (·.size) = some n := by
  subst h
  kernel_rfl
/-- An op in its box. -/
structure MBox (B : Nat) (V : World) (ob : Nat) (x : Op) (mcs fcs : List Value) : Prop where
  lt : ob < V.heap.size
  kind : V.cell? ⟨ob, 0, none⟩ = some (.int .i64 x.Kind)
  i : V.cell? ⟨ob, 1, none⟩ = some (.int .i64 x.I)
  m : V.rangeAt ob 3 mcs
  f : V.rangeAt ob 17 fcs
  msg : kMsg.K V (fun k => k < B) x.M mcs
  flt : kFilter.K V (fun k => k < B) x.M.Query.Filter fcs
theorem range_move {V V' : World} {ob o : Nat} {cs : List Value} (h : V.rangeAt ob o cs) (hk : V'.heap[ob]? = V.heap[ob]?) : V'.rangeAt ob o cs := fun j u hu => (World.cell?_of_block (a := ⟨ob, o + j, none⟩) hk).trans (h j u hu)
theorem MBox.chg {B ob : Nat} {V V' : World} {x : Op} {mcs fcs : List Value} {G : Nat → Prop} (h : MBox B V ob x mcs fcs) (hc : Chg V V' G) (ho : ¬ G ob) (hB : ∀ k, k < B → ¬ G k) : MBox B V' ob x mcs fcs := by
  have hk := hc.block ob h.lt ho
  exact ⟨Nat.lt_of_lt_of_le h.lt hc.size, (World.cell?_of_block (a := ⟨ob, 0, none⟩) hk).trans h.kind, (World.cell?_of_block (a := ⟨ob, 1, none⟩) hk).trans h.i, range_move h.m hk, range_move h.f hk,
    kMsg.move (fun k hk hl => hc.block k hl (hB k hk)) h.msg, kFilter.move (fun k hk hl => hc.block k hl (hB k hk)) h.flt⟩
theorem rangeAt_drop {w : World} {g o : Nat} {cs : List Value} (h : w.rangeAt g o cs) (n : Nat) : w.rangeAt g (o + n) (cs.drop n) := fun j u hu => by
  rw [List.getElem?_drop] at hu
  have := h (n + j) u hu
  rwa [← Nat.add_assoc] at this
theorem rangeAt_take {w : World} {g o : Nat} {cs : List Value} (h : w.rangeAt g o cs) (n : Nat) : w.rangeAt g o (cs.take n) := fun j u hu => by
  rw [List.getElem?_take] at hu
  split at hu
  · exact h j u hu
  · cases hu
theorem opM_box {B : Nat} {w V : World} {b0 o0 k : Nat} {x : Op} {cur : Array Value} {cs : List Value} (hV : (w.alloc (.cells cur 56)).setCells w.heap.size 0 cs = V) (hc : cur.size = 44) (h : OpM B w b0 o0 k x cs) (hB : B ≤ w.heap.size) :
    ∃ mcs fcs, MBox B V w.heap.size x mcs fcs ∧ Below w.heap.size w V := by
  subst hV
  have hr : ((w.alloc (.cells cur 56)).setCells w.heap.size 0 cs).rangeAt w.heap.size 0 cs := World.rangeAt_setCells_same _ _ _ _ (there_blk (blk_new w _) hc h.len)
  have hb := below_setCells (Nat.le_refl _) cs 0 _ (below_alloc (Below.refl w.heap.size w) (.cells cur 56))
  have hlt : w.heap.size < ((w.alloc (.cells cur 56)).setCells w.heap.size 0 cs).heap.size := by
    have := (below_setCells (w := w.alloc (.cells cur 56)) (Nat.zero_le _) cs 0 _ (Below.refl 0 _) : Below 0 _ ((w.alloc (.cells cur 56)).setCells w.heap.size 0 cs)).size
    rw [World.size_alloc] at this
    omega
  have hm := Kd.below h.msg hb
  obtain ⟨d, m, t, kk, s, a, g, p, hcs, _, _, hf, _⟩ := kMsg_parts hm
  refine ⟨cs.drop 3, _, ⟨hlt, hr 0 _ h.kind, hr 1 _ h.i, ?_, ?_, hm, hf⟩, hb⟩
  · have := rangeAt_drop hr 3
    simpa using this
  · have h2 := rangeAt_take (rangeAt_drop (rangeAt_drop hr 3) 14) 6
    rw [hcs] at h2
    simpa [mC] using h2
/-- The two nets beside each other: the same messages, the same last number. -/
structure PAt (w : World) (nb rb i : Nat) (F G : Nat → Prop) (ms : List Msg) (last : Int) (wr : World) : Prop where
  net : NetAt wr F nb ms last
  ref : RNetAt w.heap.size wr G rb ms last
  hF : ∀ k, F k → w.heap.size ≤ k ∧ k ≠ rb ∧ ¬ G k ∧ k < wr.heap.size
  hG : ∀ k, G k → w.heap.size ≤ k ∧ k ≠ nb ∧ k < wr.heap.size
  hn : w.heap.size ≤ nb
  nr : nb ≠ rb
  len : ms.length ≤ i
  l0 : 0 ≤ last
  l1 : last ≤ i
  small : ∀ y ∈ ms, (putV y).length + 100 ≤ 140737488355328
  below : Below w.heap.size w wr
def PLoop (w : World) (nb rb i : Nat) (wr : World) : Prop := ∃ (F G : Nat → Prop) (ms : List Msg) (last : Int), PAt w nb rb i F G ms last wr
section
variable {w wr V w4 w5 : World} {nb rb i : Nat} {F G F' G' : Nat → Prop} {ms ms' : List Msg} {last last' : Int}
theorem PAt.loop (h : PAt w nb rb i F G ms last wr) : PLoop w nb rb i wr := ⟨F, G, ms, last, h⟩
theorem PAt.nF (h : PAt w nb rb i F G ms last wr) : ¬ F nb := by obtain ⟨_, _, _, _, h⟩ := h.net; exact h
theorem PAt.later (h : PAt w nb rb i F G ms last wr) (hc : Chg wr V NoF) : PAt w nb rb i F G ms last V :=
  ⟨h.net.chg hc (fun _ _ h => h) (fun h => h), h.ref.chg hc (fun _ _ h => h) (fun _ _ h => h) (fun h => h), fun k hk => have ⟨a, b, c, d⟩ := h.hF k hk; ⟨a, b, c, Nat.lt_of_lt_of_le d hc.size⟩, fun k hk => have ⟨a, b, d⟩ := h.hG k hk; ⟨a, b, Nat.lt_of_lt_of_le d hc.size⟩, h.hn, h.nr, h.len, h.l0, h.l1, h.small, h.below.trans (hc.below h.below.size fun k hk => hk.elim)⟩
theorem PAt.next (h : PAt w nb rb i F G ms last wr) : PAt w nb rb (i + 1) F G ms last wr :=
  ⟨h.net, h.ref, h.hF, h.hG, h.hn, h.nr, Nat.le_succ_of_le h.len, h.l0, by have := h.l1; omega, h.small, h.below⟩
/-- The reference behind the program's step. -/
theorem PAt.mid (h : PAt w nb rb i F G ms last V) (hc : Chg V w4 (fun k => F k ∨ k = nb)) : RNetAt w.heap.size w4 G rb ms last :=
  h.ref.chg hc (fun k hk hh => hh.elim (fun hf => by have := (h.hF k hf).1; omega) (fun e => by have := h.hn; omega)) (fun k hk hh => hh.elim (fun hf => (h.hF k hf).2.2.1 hk) (fun e => (h.hG k hk).2.1 e)) (fun hh => hh.elim (fun hf => (h.hF rb hf).2.1 rfl) (fun e => h.nr e.symm))
/-- Both steps. -/
theorem PAt.step (h : PAt w nb rb i F G ms last V) (hN : NetAt w4 F' nb ms' last') (hc4 : Chg V w4 (fun k => F k ∨ k = nb)) (hF' : ∀ k, F' k → F k ∨ V.heap.size ≤ k) (hR : RNetAt w.heap.size w5 G' rb ms' last') (hc5 : Chg w4 w5 (fun k => G k ∨ k = rb)) (hG' : ∀ k, G' k → G k ∨ w4.heap.size ≤ k)
    (h1 : ms'.length ≤ i + 1) (h2 : 0 ≤ last') (h3 : last' ≤ (i : Int) + 1) (h4 : ∀ y ∈ ms', (putV y).length + 100 ≤ 140737488355328) : PLoop w nb rb (i + 1) w5 := by
  have s0 := h.below.size
  have s4 := hc4.size
  have s5 := hc5.size
  have t1 := h.net.lt
  have t2 := h.ref.lt
  have t3 := h.ref.hb
  have hn := h.hn
  have hNk := hN.known
  have hap : ∀ k, F' k ∧ k < w4.heap.size → w.heap.size ≤ k ∧ k ≠ rb ∧ ¬ G k := fun k hk => by
    rcases hF' k hk.1 with hf | hf
    · have := h.hF k hf; exact ⟨this.1, this.2.1, this.2.2.1⟩
    · exact ⟨by omega, by omega, fun hg => by have := (h.hG k hg).2.2; omega⟩
  refine ⟨_, _, ms', last', hNk.chg hc5 (fun k hk hh => hh.elim (hap k hk).2.2 (hap k hk).2.1) (fun hh => hh.elim (fun hg => (h.hG nb hg).2.1 rfl) h.nr), hR.known, fun k hk => ?_, fun k hk => ?_, hn, h.nr, h1, h2, by push_cast; omega, h4, ?_⟩
  · have := hap k hk
    refine ⟨this.1, this.2.1, fun hg => ?_, by omega⟩
    rcases hG' k hg.1 with h' | h'
    · exact this.2.2 h'
    · omega
  · rcases hG' k hk.1 with h' | h'
    · exact ⟨(h.hG k h').1, (h.hG k h').2.1, hk.2⟩
    · exact ⟨by omega, by omega, hk.2⟩
  · exact (h.below.trans (hc4.below s0 fun k hk => hk.elim (fun hf => (h.hF k hf).1) (fun e => by omega))).trans (hc5.below (by omega) fun k hk => hk.elim (fun hg => (h.hG k hg).1) (fun e => by omega))
/-- The program did nothing, nor did the reference. -/
theorem PAt.still (h : PAt w nb rb i F G ms last V) (hc : Chg V w4 NoF) : PLoop w nb rb (i + 1) w4 := (h.later hc).next.loop
theorem p_begin {w1 w2 : World} (hB1 : Below w.heap.size w w1) (hN : NetAt w2 (fun k => w1.heap.size < k) w1.heap.size [] 0) (hB2 : Below w1.heap.size w1 w2) : PLoop w w1.heap.size w2.heap.size 0 (w2.alloc (.cells #[.slice none 0 0, .int .u64 0] 30)) := by
  have s1 := hB1.size
  have s2 := hN.lt
  have s3 := hB2.size
  refine ⟨fun k => w1.heap.size < k ∧ k < w2.heap.size, fun _ => False, [], 0, hN.known.chg (Chg.alloc (Chg.refl w2 NoF) _) (fun _ _ h => h) (fun h => h), ⟨⟨none, 0, blk_new _ _, Kd.Own_nil _ _ _ _ _⟩, fun h => h, by omega⟩, fun k hk => ⟨by omega, by omega, fun h => h, by rw [World.size_alloc]; omega⟩, fun k hk => hk.elim, by omega, by omega, Nat.le_refl _, by omega, by omega, fun y hy => by simp at hy, below_alloc (below_self hB1 hB2) _⟩
end
/-- A changed number changes little of what Put writes. -/
theorem putV_id (x : Msg) (n : Int) : (putV (withId x n)).length ≤ (putV x).length + 100 := by
  have h := (uintV_len n.toNat).2
  unfold putV putC putB putB0 putA withId
  dsimp only
  generalize intV x.Kind = l0 at *
  generalize intV x.From = l1 at *
  generalize intV x.To = l2 at *
  generalize uintV x.Id.toNat = l3 at *
  generalize uintV n.toNat = l4 at *
  generalize uintV x.Ask.toNat = l5 at *
  generalize uintV x.Offset.toNat = l6 at *
  generalize intV x.Term = l7 at *
  generalize uintV x.Count.toNat = l8 at *
  generalize intV x.Code = l9 at *
  generalize intV x.Fact.Time = l10 at *
  generalize textsV x.Fact.Dims = l11 at *
  generalize uintV x.Fact.Meas.length = l12 at *
  generalize List.flatMap intV x.Fact.Meas = l13 at *
  generalize queryV x.Query = l14 at *
  generalize segV x.Piece.Seg = l15 at *
  generalize spanV x.Piece.Span = l16 at *
  generalize dropV x.Order.Drop = l17 at *
  generalize segV x.Order.Seg = l18 at *
  generalize intV x.Order.Node = l19 at *
  generalize uintV x.Segs.length = l20 at *
  generalize List.flatMap segV x.Segs = l21 at *
  generalize uintV x.Groups.length = l22 at *
  generalize List.flatMap groupV x.Groups = l23 at *
  simp only [List.length_append]
  omega
theorem putV_zero : (putV (bare 0 0)).length ≤ 1000 := by decide +kernel
end Go.Proofs.Ytjpeaeklhcnpnaa.K
