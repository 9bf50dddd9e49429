/- A region that draws its order: a load may be taken first where whatever writes its cell waits for it. After the kit's OrdersHeld. And what a call may have changed. No program, no condition. -/
import Derived.Test.YtjpeaeklhcnpnaaC5b
import Derived.OrdersHeld
namespace Go.Proofs.Ytjpeaeklhcnpnaa.K
open Go.RowKit
set_option linter.unusedVariables false
section
variable {P : Program} {ops : Array Oper} {Q : Exit → Act → World → Prop} {md : Region.Mode} {S : World → Prop} {D : Nat → Bool}
/-- Whatever order is picked from here on; behind those operations that D names S holds. -/
def anyL (P : Program) (md : Region.Mode) (ops : Array Oper) (Q : Exit → Act → World → Prop) (S : World → Prop) (D : Nat → Bool) : Nat → Array Bool → Act → World → Prop
  | 0, listed, a, w => Region.ready md ops listed = [] ∧ Q .normal a w
  | fuel + 1, listed, a, w =>
    (Region.ready md ops listed = [] → Q .normal a w) ∧
    ∀ i ∈ Region.ready md ops listed, wpOp P ops Q i (fun a' w' => (D i = true → S w → S w') ∧ anyL P md ops Q S D fuel (listed.setIfInBounds i true) a' w') a w
theorem any_of_L : ∀ (fuel : Nat) (listed : Array Bool) (a : Act) (w : World), anyL P md ops Q S D fuel listed a w → wpAny P md ops Q fuel listed a w
  | 0, _, _, _, h => h
  | fuel + 1, _, _, _, h => ⟨h.1, fun i hi => wpOp_mono (fun a' w' h' => any_of_L fuel _ a' w' h'.2) (h.2 i hi)⟩
/-- All that D doesn't name waits for i. -/
def waits (md : Region.Mode) (ops : Array Oper) (D : Nat → Bool) (i : Nat) : Bool :=
  (List.range ops.size).all fun j => j == i || D j || (match ops[j]? with | some o => o.after.any fun e => Region.binds md e && e.on == i | none => true)
theorem waits_spec {i j : Nat} {oj : Oper} (h : waits md ops D i = true) (hj : ops[j]? = some oj) (hne : j ≠ i) (hD : D j = false) : ∃ e ∈ oj.after, Region.binds md e = true ∧ e.on = i := by
  have hlt : j < ops.size := (Array.getElem?_eq_some_iff.1 hj).1
  have h1 := (List.all_eq_true.1 h) j (List.mem_range.2 hlt)
  simp only [hj, Bool.or_eq_true, beq_iff_eq, hne, hD, false_or, Array.any_eq_true, Bool.and_eq_true, Bool.false_eq_true] at h1
  obtain ⟨n, hn, h2, h3⟩ := h1
  exact ⟨_, Array.getElem_mem hn, h2, h3⟩
theorem anyL_first {T : World → Prop} {i : Nat} {oi : Oper} {v : Value} (hi : ops[i]? = some oi) (hsel : ∀ (j : Nat) (o : Oper) cs b, ops[j]? = some o → o.op ≠ .select cs b)
    (hQ : ∀ c a w, Q (.panic c) (a.put oi.dst v) w → Q (.panic c) a w) (hT : ∀ j oj w w', ops[j]? = some oj → j ≠ i → (∀ e ∈ oj.after, Region.binds md e = true → e.on ≠ i) → (D j = true → S w → S w') → T w → T w') :
    ∀ (fuel : Nat) (listed : Array Bool) (a : Act) (w : World),
      (∀ j oj, ops[j]? = some oj → j ≠ i → listed.getD j true = false → (∀ e ∈ oj.after, Region.binds md e = true → e.on ≠ i) → oi.apart ops oj = true) →
      i ∈ Region.ready md ops listed → YieldsIf P ops T oi v a → T w →
      anyL P md ops Q S D fuel (listed.setIfInBounds i true) (a.put oi.dst v) w → anyL P md ops Q S D (fuel + 1) listed a w := by
  intro fuel
  induction fuel with
  | zero =>
    intro listed a w _ hr hy hS H
    refine ⟨fun h => (by rw [h] at hr; cases hr), fun j hj => ?_⟩
    by_cases hji : j = i
    · subst hji; exact hy.wpOp hi hS ⟨fun _ h => h, H⟩
    · have := ready_mono hj hji
      rw [H.1] at this
      cases this
  | succ fuel ih =>
    intro listed a w hfree hr hy hS H
    refine ⟨fun h => (by rw [h] at hr; cases hr), fun j hj => ?_⟩
    by_cases hji : j = i
    · subst hji; exact hy.wpOp hi hS ⟨fun _ h => h, H⟩
    · have h1 := H.2 j (ready_mono hj hji)
      obtain ⟨hjun, oj, hoj, hall⟩ := mem_ready.1 hj
      have hnot : ∀ e ∈ oj.after, Region.binds md e = true → e.on ≠ i := fun e he hb heq => by
        have h1 := hall e he hb
        have h0 := (mem_ready.1 hr).1
        rw [heq] at h1
        rcases Nat.lt_or_ge i listed.size with h' | h'
        · simp [h'] at h0 h1; rw [h0] at h1; cases h1
        · simp [Array.getElem?_eq_none h'] at h1
      have h2 := wpOp_putIf hoj (hfree j oj hoj hji hjun hnot) (fun cs b => hsel i oi cs b hi) (fun cs b => hsel j oj cs b hoj) hQ hy h1
      have hfree' : ∀ k ok, ops[k]? = some ok → k ≠ i → (listed.setIfInBounds j true).getD k true = false →
          (∀ e ∈ ok.after, Region.binds md e = true → e.on ≠ i) → oi.apart ops ok = true := fun k ok hk hki hun hno => by
        refine hfree k ok hk hki ?_ hno
        by_cases hjk : j = k
        · subst hjk; exact hjun
        · rw [getD_set_ne true hjk] at hun; exact hun
      refine wpOp_mono (fun a' w' h3 => ⟨h3.2.1, ih (listed.setIfInBounds j true) a' w' hfree' (ready_mono hr (Ne.symm hji)) h3.1 (hT j oj w w' hoj hji hnot h3.2.1 hS) ?_⟩) h2
      rw [Array.setIfInBounds_comm _ _ hji]
      exact h3.2.2
theorem anyL_take {i : Nat} {oi : Oper} {v : Value} {fuel : Nat} {listed : Array Bool} {a : Act} {w : World} (hi : ops[i]? = some oi)
    (hs : Region.noSelect ops = true) (hf : Region.free md ops listed i = true) (hr : (Region.ready md ops listed).contains i = true) (hW : waits md ops D i = true)
    (hQ : ∀ c a w, Q (.panic c) (a.put oi.dst v) w → Q (.panic c) a w) (hy : YieldsIf P ops S oi v a) (hS : S w)
    (h : anyL P md ops Q S D fuel (listed.setIfInBounds i true) (a.put oi.dst v) w) : anyL P md ops Q S D (fuel + 1) listed a w := by
  refine anyL_first (T := S) hi (Region.noSelect_spec hs) hQ (fun j oj w w' hj hji hnot hD hS => hD ?_ hS) fuel listed a w (Region.free_spec hi hf) (by simpa using hr) hy hS h
  cases hd : D j with
  | true => rfl
  | false =>
    obtain ⟨e, he, hb, heq⟩ := waits_spec hW hj hji hd
    exact absurd heq (hnot e he hb)
/-- What yields in whatever world. -/
theorem anyL_take0 {i : Nat} {oi : Oper} {v : Value} {fuel : Nat} {listed : Array Bool} {a : Act} {w : World} (hi : ops[i]? = some oi)
    (hs : Region.noSelect ops = true) (hf : Region.free md ops listed i = true) (hr : (Region.ready md ops listed).contains i = true)
    (hQ : ∀ c a w, Q (.panic c) (a.put oi.dst v) w → Q (.panic c) a w) (hy : Yields P ops oi v a)
    (h : anyL P md ops Q S D fuel (listed.setIfInBounds i true) (a.put oi.dst v) w) : anyL P md ops Q S D (fuel + 1) listed a w :=
  anyL_first (T := fun _ => True) hi (Region.noSelect_spec hs) hQ (fun _ _ _ _ _ _ _ _ _ => trivial) fuel listed a w (Region.free_spec hi hf) (by simpa using hr) hy.yieldsIf trivial h
/-- One alone may come up. -/
theorem anyL_one {i : Nat} {o : Oper} {fuel : Nat} {listed : Array Bool} {a : Act} {w : World} (hr : Region.ready md ops listed = [i]) (ho : ops[i]? = some o) (hg : o.guard = none)
    (h : ∀ K : Act → World → Prop, (∀ a' w', (D i = true → S w') → anyL P md ops Q S D fuel (listed.setIfInBounds i true) a' w' → K a' w') → Oper.wp P o a w K Q) : anyL P md ops Q S D (fuel + 1) listed a w := by
  refine ⟨fun h0 => absurd (hr ▸ h0) (by simp), fun j hj => ?_⟩
  rw [hr] at hj
  obtain rfl := List.mem_singleton.1 hj
  refine wpOp_step ho (fun K hK => ?_)
  rw [if_pos (by simp [Region.wanted, hg])]
  exact h K (fun a' w' h1 h2 => hK _ _ ⟨fun hd _ => h1 hd, h2⟩)
theorem anyL_done {listed : Array Bool} {a : Act} {w : World} (hr : Region.ready md ops listed = []) (h : Q .normal a w) : ∀ fuel, anyL P md ops Q S D fuel listed a w
  | 0 => ⟨hr, h⟩
  | _ + 1 => ⟨fun _ => h, by rw [hr]; simp⟩
theorem region_L (S : World → Prop) (D : Nat → Bool) {id : Nat} {l : List Oper} {a : Act} {w : World} (hm : P.follows .mixedOrders = true) (h : anyL P .any l.toArray Q S D l.toArray.size (Array.replicate l.toArray.size false) a w.drew) : (Code.region id l.toArray true).wp P Q a w :=
  wp_region_any hm (any_of_L _ _ _ _ h)
end

/-! ### What a call may have changed -/
structure Chg (w w' : World) (F : Nat → Prop) : Prop where
  os : w'.os = w.os
  tape : w'.tape = w.tape
  output : w'.output = w.output
  size : w.heap.size ≤ w'.heap.size
  block : ∀ k, k < w.heap.size → ¬ F k → w'.heap[k]? = w.heap[k]?
theorem Chg.refl (w : World) (F : Nat → Prop) : Chg w w F := ⟨rfl, rfl, rfl, Nat.le_refl _, fun _ _ _ => rfl⟩
theorem Chg.of_below {w w' : World} (h : Below w.heap.size w w') (F : Nat → Prop) : Chg w w' F := ⟨h.os, h.tape, h.output, h.size, fun k hk _ => h.block k hk⟩
theorem Chg.below {w w' : World} {F : Nat → Prop} {B : Nat} (h : Chg w w' F) (hB : B ≤ w.heap.size) (hF : ∀ k, F k → B ≤ k) : Below B w w' := ⟨h.os, h.tape, h.output, h.size, fun k hk => h.block k (Nat.lt_of_lt_of_le hk hB) (fun hf => by have := hF k hf; omega)⟩
theorem Chg.trans {w w1 w2 : World} {F G : Nat → Prop} (h : Chg w w1 F) (k : Chg w1 w2 G) : Chg w w2 (fun k => F k ∨ G k) :=
  ⟨k.os.trans h.os, k.tape.trans h.tape, k.output.trans h.output, Nat.le_trans h.size k.size, fun i hi hf => (k.block i (Nat.lt_of_lt_of_le hi h.size) (fun hg => hf (.inr hg))).trans (h.block i hi (fun hg => hf (.inl hg)))⟩
theorem Chg.mono {w w' : World} {F G : Nat → Prop} (h : Chg w w' F) (hF : ∀ k, k < w.heap.size → F k → G k) : Chg w w' G := ⟨h.os, h.tape, h.output, h.size, fun k hk hg => h.block k hk (fun hf => hg (hF k hk hf))⟩
theorem Chg.alloc {w w' : World} {F : Nat → Prop} (h : Chg w w' F) (o : Obj) : Chg w (w'.alloc o) F :=
  ⟨h.os, h.tape, h.output, Nat.le_trans h.size (by simp), fun k hk hf => (Below.heap_alloc w' o k (Nat.lt_of_lt_of_le hk h.size)).trans (h.block k hk hf)⟩
theorem Chg.drew {w w' : World} {F : Nat → Prop} (h : Chg w w' F) : Chg w w'.drew F := ⟨h.os, h.tape, h.output, h.size, h.block⟩
theorem Chg.drewN {w w' : World} {F : Nat → Prop} (h : Chg w w' F) (n : Nat) : Chg w (w'.drewN n) F := ⟨h.os, h.tape, h.output, h.size, h.block⟩
theorem Chg.set {w w' : World} {F : Nat → Prop} (h : Chg w w' F) {a : Addr} (ha : F a.block ∨ w.heap.size ≤ a.block) (v : Value) : Chg w (w'.setCell a v) F :=
  ⟨h.os, h.tape, h.output, by rw [setCell_size]; exact h.size, fun k hk hf => (set_other (fun e => by
    subst e
    rcases ha with ha | ha
    · exact hf ha
    · omega)).trans (h.block k hk hf)⟩
theorem Chg.sets {w : World} {F : Nat → Prop} {b : Nat} (hb : F b ∨ w.heap.size ≤ b) : ∀ (vs : List Value) (o : Nat) {W : World}, Chg w W F → Chg w (W.setCells b o vs) F
  | [], _, _, h => h
  | v :: r, o, _, h => Chg.sets hb r (o + 1) (h.set (a := ⟨b, o, none⟩) hb v)
theorem Chg.grown {w w' w2 : World} {F : Nat → Prop} {row : Option Nat} (h : Chg w w' F) (hg : w'.grownBy w2 row) (hr : ∀ b, row = some b → F b ∨ w.heap.size ≤ b) : Chg w w2 F :=
  ⟨hg.os.trans h.os, hg.tape.trans h.tape, hg.output.trans h.output, Nat.le_trans h.size hg.size, fun k hk hf => (hg.block k (Nat.lt_of_lt_of_le hk h.size) (fun e => by
    rcases hr k e.symm with h1 | h1
    · exact hf h1
    · omega)).trans (h.block k hk hf)⟩
theorem Chg.then_ {w w1 w2 : World} {F G : Nat → Prop} (h : Chg w w1 F) (k : Chg w1 w2 G) (hG : ∀ k, k < w.heap.size → G k → F k) : Chg w w2 F :=
  (h.trans k).mono (fun i hi hf => hf.elim id (hG i hi))
theorem Chg.keeps {w w' : World} {F : Nat → Prop} (h : Chg w w' F) {k : Nat} {o : Obj} (hk : w.heap[k]? = some o) (hf : ¬ F k) : w'.heap[k]? = some o := (h.block k (blk_lt hk) hf).trans hk

/-! ### Rows laid over -/
namespace Kd
variable {α : Type} {d : Kd α} {e : TypeId} {w : World} {g cap : Nat} {xs : List α} {F : Nat → Nat → Prop}
theorem Row.cut (h : d.Row e w g cap xs F) (m : Nat) : d.Row e w g cap (xs.take m) F := by
  obtain ⟨h1, h2, h3, h4⟩ := h
  refine ⟨h1, by rw [List.length_take]; omega, h3, fun j p hj => h4 j p ?_⟩
  rw [List.getElem?_take] at hj
  split at hj
  · exact hj
  · cases hj
theorem Row.lay (h : d.Row e w g cap xs F) {i : Nat} (hi : i ≤ xs.length) {ys : List α} {vs : List Value} {Fy : Nat → Nat → Prop} (hl : vs.length = ys.length * d.sz) (hc : i + ys.length ≤ cap)
    (hK : ∀ j p, ys[j]? = some p → d.K w (Fy j) p ((vs.drop (j * d.sz)).take d.sz)) (hF : ∀ j k, F j k → k ≠ g) (hFy : ∀ j k, Fy j k → k ≠ g) :
    d.Row e (w.setCells g (i * d.sz) vs) g cap (xs.take i ++ ys) (fun j k => (j < i → F j k) ∧ (i ≤ j → Fy (j - i) k)) := by
  obtain ⟨⟨cur, h1, h1'⟩, h2, h3, h4⟩ := h
  obtain ⟨cur', g1, g2⟩ := setCells_block vs (i * d.sz) w h1
  have hthere : w.there g (i * d.sz) vs.length := fun j hj => by
    have hle : i * d.sz + vs.length ≤ cap * d.sz := by rw [hl, ← Nat.add_mul]; exact Nat.mul_le_mul_right _ hc
    exact ⟨by rw [blk_cell h1, Array.getElem?_eq_getElem (by omega)]; rfl, blk_frozen h1 _⟩
  refine ⟨⟨cur', g1, by rw [g2, h1']⟩, by simp; omega, h3, fun j p hj => ?_⟩
  rcases Nat.lt_or_ge j i with hlt | hge
  · rw [List.getElem?_append_left (by simp; omega), List.getElem?_take, if_pos hlt] at hj
    obtain ⟨cs, hr, hk⟩ := h4 j p hj
    refine ⟨cs, World.rangeAt_setCells_apart hr _ _ _ (.inr (.inl ?_)), ?_⟩
    · rw [d.len hk, ← Nat.succ_mul]
      exact Nat.mul_le_mul_right _ hlt
    · exact d.mono (fun k hk => ⟨fun _ => hk, fun h => by omega⟩) (d.move (fun k hk _ => setCells_other _ _ _ (hF j k hk)) hk)
  · have htl : (xs.take i).length = i := by rw [List.length_take]; omega
    rw [List.getElem?_append_right (by omega), htl] at hj
    have hjl := (List.getElem?_eq_some_iff.1 hj).1
    refine ⟨_, fun m u hu => ?_, d.mono (fun k hk => ⟨fun h => by omega, fun _ => hk⟩) (d.move (fun k hk _ => setCells_other _ _ _ (hFy _ k hk)) (hK _ p hj))⟩
    rw [List.getElem?_take] at hu
    split at hu
    · rw [List.getElem?_drop] at hu
      have := World.rangeAt_setCells_same w g (i * d.sz) vs hthere _ u hu
      rw [show i * d.sz + ((j - i) * d.sz + m) = j * d.sz + m by rw [← Nat.add_assoc, ← Nat.add_mul, Nat.add_sub_cancel' hge]] at this
      exact this
    · cases hu
theorem Row.beyond (h : d.Row e w g cap xs F) {o : Nat} (vs : List Value) (ho : xs.length * d.sz ≤ o) (hF : ∀ j k, F j k → k ≠ g) : d.Row e (w.setCells g o vs) g cap xs F := by
  obtain ⟨⟨cur, h1, h1'⟩, h2, h3, h4⟩ := h
  obtain ⟨cur', g1, g2⟩ := setCells_block vs o w h1
  refine ⟨⟨cur', g1, by rw [g2, h1']⟩, h2, h3, fun j p hj => ?_⟩
  obtain ⟨cs, hr, hk⟩ := h4 j p hj
  refine ⟨cs, World.rangeAt_setCells_apart hr _ _ _ (.inr (.inl ?_)), d.move (fun k hk _ => setCells_other _ _ _ (hF j k hk)) hk⟩
  rw [d.len hk, ← Nat.succ_mul]
  exact Nat.le_trans (Nat.mul_le_mul_right _ (List.getElem?_eq_some_iff.1 hj).1) ho
/-- A row's elements from i on, as one list of cells. -/
theorem Row.tail (h : d.Row e w g cap xs F) (i : Nat) : ∃ vs : List Value, vs.length = (xs.length - i) * d.sz ∧ w.rangeAt g (i * d.sz) vs ∧ ∀ j p, (xs.drop i)[j]? = some p → d.K w (F (i + j)) p ((vs.drop (j * d.sz)).take d.sz) := by
  obtain ⟨⟨cur, h1, h1'⟩, h2, h3, h4⟩ := h
  refine ⟨(cur.toList.drop (i * d.sz)).take ((xs.length - i) * d.sz), ?_, fun m u hu => ?_, fun j p hj => ?_⟩
  · have hx : cur.toList.length = cur.size := Array.length_toList
    rw [List.length_take, List.length_drop, hx, h1', ← Nat.sub_mul]
    exact Nat.min_eq_left (Nat.mul_le_mul_right _ (by omega))
  · rw [List.getElem?_take] at hu
    split at hu
    · rw [List.getElem?_drop, Array.getElem?_toList] at hu
      rw [blk_cell h1]
      exact hu
    · cases hu
  · rw [List.getElem?_drop] at hj
    obtain ⟨cs, hr, hk⟩ := h4 _ p hj
    have hl := (List.getElem?_eq_some_iff.1 hj).1
    have he : List.take d.sz (List.drop (j * d.sz) (List.take ((xs.length - i) * d.sz) (List.drop (i * d.sz) cur.toList))) = cs := by
      have hcl := d.len hk
      have hle : j * d.sz + d.sz ≤ (xs.length - i) * d.sz := by rw [← Nat.succ_mul]; exact Nat.mul_le_mul_right _ (by omega)
      refine List.ext_getElem? fun m => ?_
      rw [List.getElem?_take]
      split
      · rename_i hm
        rw [List.getElem?_drop, List.getElem?_take, if_pos (by omega), List.getElem?_drop, Array.getElem?_toList]
        have := hr m _ (List.getElem?_eq_getElem (by omega))
        rw [blk_cell h1] at this
        rw [List.getElem?_eq_getElem (by omega), ← this]
        congr 1
        rw [Nat.add_mul]
        omega
      · rw [List.getElem?_eq_none (by omega)]
    rw [he]
    exact hk
end Kd
end Go.Proofs.Ytjpeaeklhcnpnaa.K
