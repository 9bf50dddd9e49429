/- A net and two maps beside each other, for NetOnce. No condition. -/
import Derived.Test.YtjpeaeklhcnpnaaO1
namespace Go.Proofs.Ytjpeaeklhcnpnaa.K
open Go.RowKit
set_option linter.unusedVariables false
set_option linter.unusedSimpArgs false
theorem und75 : Try.prog.underlying 75 = some (.map 28 3) := by kernel_rfl
theorem und28 : Try.prog.underlying 28 = some (.int .u64) := by kernel_rfl
theorem zero3 (w : World) : (zeroValue 3).run Try.prog w = .ok (.int .i64 0) w := by kernel_rfl
theorem i64_wf {n : Int} (h0 : -9223372036854775808 ≤ n) (h1 : n ≤ 9223372036854775807) : (Lit.int .i64 n).wf = true := by
  simp only [Lit.wf, Bool.and_eq_true, decide_eq_true_eq]
  exact ⟨h0, h1⟩
theorem wf_i64 {n : Int} (h : (Lit.int .i64 n).wf = true) : -9223372036854775808 ≤ n ∧ n ≤ 9223372036854775807 := by
  simp only [Lit.wf, Bool.and_eq_true, decide_eq_true_eq] at h
  exact h
theorem abs_any (n : Int) (hn : (Lit.int .i64 n).wf = true) (w : World) : Calls Try.prog 12 #[.int .i64 n] w fun e w' => (∃ k : Nat, e = .returned (.int .i64 k)) ∧ w' = w := by
  have hb := wf_i64 hn
  by_cases h : n < 0
  · have e1 : IntKind.i64.wrap (n + 1) = n + 1 := by rw [IntKind.wrap_i64]; omega
    have e2 : IntKind.i64.wrap (-(n + 1)) = -(n + 1) := by rw [IntKind.wrap_i64]; omega
    go_enter Try.func12, Try.ntmps12
    go_wp2
    go_ret
    exact ⟨⟨(-(n + 1)).toNat, by rw [Int.toNat_of_nonneg (by omega)]; rfl⟩, rfl⟩
  · go_enter Try.func12, Try.ntmps12
    go_wp2
    go_ret
    exact ⟨⟨n.toNat, by rw [Int.toNat_of_nonneg (by omega)]; rfl⟩, rfl⟩
structure OPlace (w : World) (nb sm cm : Nat) (F : Nat → Prop) : Prop where
  hF : ∀ k, F k → w.heap.size ≤ k ∧ k ≠ sm ∧ k ≠ cm
  hnb : w.heap.size ≤ nb
  hsm : w.heap.size ≤ sm
  hcm : w.heap.size ≤ cm
  hns : nb ≠ sm
  hnc : nb ≠ cm
  hsc : sm ≠ cm
structure OAt (w : World) (nb sm cm : Nat) (F : Nat → Prop) (wr : World) (ms : List Msg) (last : Int) (nf sz : Nat) (f : Int → Option Value) (ng szg : Nat) (g : Int → Option Value) : Prop where
  net : NetAt wr F nb ms last
  sent : MapAt 28 .u64 wr sm nf sz f
  came : MapAt 28 .u64 wr cm ng szg g
  place : OPlace w nb sm cm F
  below : Below w.heap.size w wr
section
variable {w wr w' : World} {nb sm cm nf sz ng szg : Nat} {F F2 : Nat → Prop} {ms ms' : List Msg} {last last' : Int} {f g : Int → Option Value}
theorem OPlace.sub (h : OPlace w nb sm cm F) (hF : ∀ k, F2 k → F k) : OPlace w nb sm cm F2 := ⟨fun k hk => h.hF k (hF k hk), h.hnb, h.hsm, h.hcm, h.hns, h.hnc, h.hsc⟩
theorem OAt.known (h : OAt w nb sm cm F wr ms last nf sz f ng szg g) : OAt w nb sm cm (fun k => F k ∧ k < wr.heap.size) wr ms last nf sz f ng szg g :=
  ⟨h.net.known, h.sent, h.came, h.place.sub (fun k hk => hk.1), h.below⟩
theorem OAt.later (h : OAt w nb sm cm F wr ms last nf sz f ng szg g) (hc : Chg wr w' NoF) : OAt w nb sm cm F w' ms last nf sz f ng szg g :=
  ⟨h.net.later hc, h.sent.chg hc (fun h => h), h.came.chg hc (fun h => h), h.place, h.below.trans (hc.below h.below.size fun k hk => hk.elim)⟩
theorem OAt.turn (h : OAt w nb sm cm F wr ms last nf sz f ng szg g) (hn : NetAt w' F2 nb ms' last') (hc : Chg wr w' (fun k => F k ∨ k = nb)) (hF : ∀ k, F2 k → F k ∨ wr.heap.size ≤ k) : OAt w nb sm cm F2 w' ms' last' nf sz f ng szg g := by
  have h1 := h.sent.lt
  have h2 := h.came.lt
  have h3 := h.below.size
  refine ⟨hn, h.sent.chg hc ?_, h.came.chg hc ?_, ⟨fun k hk => ?_, h.place.hnb, h.place.hsm, h.place.hcm, h.place.hns, h.place.hnc, h.place.hsc⟩, h.below.trans (hc.below h3 fun k hk => hk.elim (fun h' => (h.place.hF k h').1) (fun e => e ▸ h.place.hnb))⟩
  · exact fun hk => hk.elim (fun h' => (h.place.hF _ h').2.1 rfl) (fun e => h.place.hns e.symm)
  · exact fun hk => hk.elim (fun h' => (h.place.hF _ h').2.2 rfl) (fun e => h.place.hnc e.symm)
  · rcases hF k hk with h' | h'
    · exact h.place.hF k h'
    · exact ⟨by omega, by omega, by omega⟩
theorem OAt.putS {nf' sz' : Nat} {f' : Int → Option Value} (h : OAt w nb sm cm F wr ms last nf sz f ng szg g) (hm : MapAt 28 .u64 w' sm nf' sz' f') (hg : wr.grownBy w' (some sm)) : OAt w nb sm cm F w' ms last nf' sz' f' ng szg g := by
  have hc : Chg wr w' (fun k => k = sm) := Chg.grown (Chg.refl wr _) hg (fun b hb => .inl (Option.some.inj hb).symm)
  exact ⟨h.net.chg hc (fun k hk => (h.place.hF k hk).2.1) h.place.hns, hm, h.came.chg hc (fun e => h.place.hsc e.symm), h.place, h.below.trans (hc.below h.below.size fun k e => e ▸ h.place.hsm)⟩
theorem OAt.putC {ng' szg' : Nat} {g' : Int → Option Value} (h : OAt w nb sm cm F wr ms last nf sz f ng szg g) (hm : MapAt 28 .u64 w' cm ng' szg' g') (hg : wr.grownBy w' (some cm)) : OAt w nb sm cm F w' ms last nf sz f ng' szg' g' := by
  have hc : Chg wr w' (fun k => k = cm) := Chg.grown (Chg.refl wr _) hg (fun b hb => .inl (Option.some.inj hb).symm)
  exact ⟨h.net.chg hc (fun k hk => (h.place.hF k hk).2.2) h.place.hnc, h.sent.chg hc h.place.hsc, hm, h.place, h.below.trans (hc.below h.below.size fun k e => e ▸ h.place.hcm)⟩
end
section
variable {w wr : World} {nb sm cm nf ln ng szg : Nat} {F : Nat → Prop} {ms : List Msg} {last : Int} {f g : Int → Option Value}
theorem OAt.sentUp (h : OAt w nb sm cm F wr ms last nf ln f ng szg g) {id v : Int} (hid : f id = some (.int .i64 v)) (hw : (Lit.int .u64 id).wf = true) (hn : nf < 9223372036854775807) (u : Value) :
    (Instr.lookup 75 (.map (some sm)) (.int .u64 id) false).run Try.prog wr = .ok (.int .i64 v) wr ∧ ∃ w', (Instr.mapUpdate 75 (.map (some sm)) (.int .u64 id) u).run Try.prog wr = .ok () w' ∧ Chg wr w' (fun k => k = sm) ∧ OAt w nb sm cm F w' ms last (nf + 1) ln (upd f id u) ng szg g := by
  have h1 := h.sent.look und28 und75 (zero3 wr) hw
  rw [hid] at h1
  obtain ⟨w', h2, h3, h4⟩ := h.sent.put und28 und75 hn hw u
  rw [hid] at h3
  exact ⟨h1, w', h2, Chg.grown (Chg.refl wr _) h4 (fun b hb => .inl (Option.some.inj hb).symm), h.putS h3 h4⟩
theorem OAt.sentNew (h : OAt w nb sm cm F wr ms last nf ln f ng szg g) {id : Int} (hid : f id = none) (hw : (Lit.int .u64 id).wf = true) (hn : nf < 9223372036854775807) (u : Value) :
    ∃ w', (Instr.mapUpdate 75 (.map (some sm)) (.int .u64 id) u).run Try.prog wr = .ok () w' ∧ OAt w nb sm cm F w' ms last (nf + 1) (ln + 1) (upd f id u) ng szg g := by
  obtain ⟨w', h2, h3, h4⟩ := h.sent.put und28 und75 hn hw u
  rw [hid] at h3
  exact ⟨w', h2, h.putS h3 h4⟩
theorem OAt.cameUp (h : OAt w nb sm cm F wr ms last nf ln f ng szg g) {id v : Int} (hid : (g id).getD (.int .i64 0) = .int .i64 v) (hw : (Lit.int .u64 id).wf = true) (hn : ng < 9223372036854775807) (u : Value) :
    (Instr.lookup 75 (.map (some cm)) (.int .u64 id) false).run Try.prog wr = .ok (.int .i64 v) wr ∧ ∃ w' szg', (Instr.mapUpdate 75 (.map (some cm)) (.int .u64 id) u).run Try.prog wr = .ok () w' ∧ OAt w nb sm cm F w' ms last nf ln f (ng + 1) szg' (upd g id u) := by
  have h1 := h.came.look und28 und75 (zero3 wr) hw
  rw [hid] at h1
  obtain ⟨w', h2, h3, h4⟩ := h.came.put und28 und75 hn hw u
  exact ⟨h1, w', _, h2, h.putC h3 h4⟩
end
def OLoop (w : World) (nb sm cm i : Nat) (wr : World) : Prop :=
  ∃ (F : Nat → Prop) (ms : List Msg) (last : Int) (c : Int → Int) (f g : Int → Option Value) (nf ng szg : Nat), OAt w nb sm cm F wr ms last nf last.toNat f ng szg g ∧ Once i ms last c f g nf ng
theorem once_begin {w w1 w2 : World} (hB1 : Below w.heap.size w w1) (hN : NetAt w2 (fun k => w1.heap.size < k ∧ k < w2.heap.size) w1.heap.size [] 0) (hB2 : Below w1.heap.size w1 w2) : OLoop w w1.heap.size w2.heap.size (w2.heap.size + 1) 0 ((w2.alloc (.map #[] 0)).alloc (.map #[] 0)) := by
  have hs : (w2.alloc (.map #[] 0)).heap.size = w2.heap.size + 1 := by simp
  have h1 := hN.lt
  have h0 := hB1.size
  have hc : Chg w2 ((w2.alloc (.map #[] 0)).alloc (.map #[] 0)) NoF := Chg.alloc (Chg.alloc (Chg.refl w2 NoF) _) _
  have hm := MapAt.made 28 .u64 (w2.alloc (.map #[] 0))
  rw [hs] at hm
  refine ⟨_, [], 0, fun _ => 0, fun _ => none, fun _ => none, 0, 0, 0, ⟨hN.later hc, (MapAt.made 28 .u64 w2).same (Below.heap_alloc _ _ _ (by omega)), hm, ⟨fun k hk => ⟨by omega, by omega, by omega⟩, by omega, by omega, by omega, by omega, by omega, by omega⟩, ?_⟩, once_start⟩
  exact (below_self hB1 hB2).trans (hc.below (by omega) fun k hk => hk.elim)
/-- A message as it is told. -/
def Told (id ask : Int) (cs : List Value) : Prop := cs.length = 41 ∧ (∀ v ∈ cs, v.oneCell' = true) ∧ cs[3]? = some (.int .u64 id) ∧ cs[4]? = some (.int .u64 ask)
theorem told_of {w : World} {F : Nat → Prop} {x : Msg} {cs : List Value} (h : kMsg.K w F x cs) : Told x.Id x.Ask cs := ⟨kMsg.len h, kMsg.one h, (kMsg_first h).2.1, (kMsg_first h).2.2⟩
theorem told_zero (w : World) : ∃ cs : List Value, mZ = cs.toArray ∧ Told 0 0 cs := by
  have h := kMsg_bare w Any 0 0 rfl rfl
  exact ⟨mZ.toList, by simp, told_of (x := bare 0 0) h⟩
theorem box_told {w V : World} {id ask : Int} {cs : List Value} (hV : (w.alloc (.cells mZ 54)).setCells w.heap.size 0 cs = V) (h : Told id ask cs) :
    V.cell? ⟨w.heap.size, 3, none⟩ = some (.int .u64 id) ∧ V.cell? ⟨w.heap.size, 4, none⟩ = some (.int .u64 ask) ∧ Below w.heap.size w V ∧ w.heap.size < V.heap.size := by
  subst hV
  have hr : ((w.alloc (.cells mZ 54)).setCells w.heap.size 0 cs).rangeAt w.heap.size 0 cs := World.rangeAt_setCells_same _ _ _ _ (there_blk (blk_new w _) rfl h.1)
  have hb := below_setCells (Nat.le_refl _) cs 0 _ (below_alloc (Below.refl w.heap.size w) (.cells mZ 54))
  refine ⟨hr 3 _ h.2.2.1, hr 4 _ h.2.2.2, hb, ?_⟩
  have := (below_setCells (w := w.alloc (.cells mZ 54)) (Nat.zero_le _) cs 0 _ (Below.refl 0 _) : Below 0 _ ((w.alloc (.cells mZ 54)).setCells w.heap.size 0 cs)).size
  simp at this
  omega
end Go.Proofs.Ytjpeaeklhcnpnaa.K
