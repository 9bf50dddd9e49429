/- Rows of bytes that are put together: what an append leaves, what a function that writes leaves. No condition but that they fit into memory. -/
import Derived.Test.YtjpeaeklhcnpnaaC7
import Derived.Lib.AppendStr
namespace Go.Proofs.Ytjpeaeklhcnpnaa.K
open Go.RowKit Go.Lib
set_option linter.unusedVariables false
set_option linter.unusedSimpArgs false
theorem und91 : Try.prog.underlying 91 = some (.slice 5) := by kernel_rfl
theorem und9 : Try.prog.underlying 9 = some .string := by kernel_rfl
theorem info5 : (Try.prog.info? 5).map (fun i => (i.zero, i.size, i.bytes)) = some (some (.int .u8 0), 1, 1) := by kernel_rfl
/-- v owns the bytes bs, in a block from base on. -/
structure BB (w : World) (base : Nat) (v : Value) (bs : List Value) : Prop where
  row : w.ownsRow base 5 1 v bs.length bs
  one : ∀ u ∈ bs, ∃ n : Int, u = .int .u8 n
/-- A function made bytes. -/
def Made (W : World) (bs : List Value) (e : Ending) (w' : World) : Prop := ∃ A n c, e = .returned (.slice A n c) ∧ BB w' W.heap.size (.slice A n c) bs ∧ Below W.heap.size W w'
/-- A function was handed v and wrote on. -/
def Wrote (base : Nat) (W : World) (v : Value) (bs : List Value) (e : Ending) (w' : World) : Prop :=
  ∃ A n c, e = .returned (.slice A n c) ∧ BB w' base (.slice A n c) bs ∧ Chg W w' (fun k => v.ownBlock = some k) ∧ ∀ k, (Value.slice A n c).ownBlock = some k → v.ownBlock = some k ∨ W.heap.size ≤ k
/-- The bytes so far, and a block beside them (a boxed parameter). -/
structure BS (w0 w : World) (base : Nat) (v0 v : Value) (bs : List Value) (gb : Option Nat) (obj : Obj) : Prop where
  own : BB w base v bs
  box : ∀ g, gb = some g → w.heap[g]? = some obj
  ne : ∀ g, gb = some g → v.ownBlock ≠ some g
  base : base ≤ w.heap.size
  chg : Chg w0 w (fun k => v0.ownBlock = some k)
  src : ∀ k, v.ownBlock = some k → v0.ownBlock = some k ∨ w0.heap.size ≤ k
section
variable {w0 w w' : World} {base : Nat} {v0 v : Value} {bs ys : List Value} {gb : Option Nat} {obj : Obj}
theorem BB.lt (h : BB w base v bs) : ∀ k, v.ownBlock = some k → base ≤ k ∧ k < w.heap.size := World.ownsRow.lt h.row
theorem BB.kept (h : BB w base v bs) (hb : Below w.heap.size w w') : BB w' base v bs := by
  obtain ⟨⟨h1, h2⟩, h3⟩ := h
  exact ⟨⟨h1, h2.imp (fun h => h) fun ⟨g, cap, cur, e, hg, hc, rest⟩ => ⟨g, cap, cur, e, hg, (hb.block g (blk_lt hc)).trans hc, rest⟩⟩, h3⟩
theorem BB.chg {F : Nat → Prop} (h : BB w base v bs) (hc : Chg w w' F) (hF : ∀ k, v.ownBlock = some k → ¬ F k) : BB w' base v bs := by
  obtain ⟨⟨h1, h2⟩, h3⟩ := h
  exact ⟨⟨h1, h2.imp (fun h => h) fun ⟨g, cap, cur, e, hg, hh, rest⟩ => ⟨g, cap, cur, e, hg, (hc.block g (blk_lt hh) (hF g (by rw [e]; rfl))).trans hh, rest⟩⟩, h3⟩
theorem BB.nil (w : World) (base : Nat) : BB w base (.slice none 0 0) [] := ⟨World.ownsRow_nil w base 5 1, fun u hu => by simp at hu⟩
theorem BS.start (h : BB w base v bs) (hb : base ≤ w.heap.size) (obj : Obj) : BS w w base v v bs none obj := ⟨h, fun g e => (by cases e), fun g e => (by cases e), hb, Chg.refl _ _, fun k hk => .inl hk⟩
/-- A parameter is boxed. -/
theorem BS.boxed (h : BB w base v bs) (hb : base ≤ w.heap.size) (obj : Obj) : BS w (w.alloc obj) base v v bs (some w.heap.size) obj := by
  refine ⟨h.kept (below_alloc (Below.refl _ _) obj), fun g e => ?_, fun g e hv => ?_, by rw [World.size_alloc]; omega, (Chg.refl _ _).alloc _, fun k hk => .inl hk⟩
  · cases e; exact blk_new w obj
  · cases e; have := (h.lt _ hv).2; omega
theorem BS.call (h : BS w0 w base v0 v bs gb obj) (hb : Below w.heap.size w w') : BS w0 w' base v0 v bs gb obj := by
  refine ⟨h.own.kept hb, fun g e => (hb.block g (blk_lt (h.box g e))).trans (h.box g e), h.ne, Nat.le_trans h.base hb.size, h.chg.then_ (Chg.of_below hb (fun _ => False)) (fun _ _ h => h.elim), h.src⟩
theorem BS.wrote {A : Option Addr} {n c : Nat} (h : BS w0 w base v0 v bs gb obj) (hO : BB w' base (.slice A n c) ys) (hc : Chg w w' (fun k => v.ownBlock = some k)) (hs : ∀ k, (Value.slice A n c).ownBlock = some k → v.ownBlock = some k ∨ w.heap.size ≤ k) : BS w0 w' base v0 (.slice A n c) ys gb obj := by
  have s0 := h.chg.size
  refine ⟨hO, fun g e => (hc.block g (blk_lt (h.box g e)) (h.ne g e)).trans (h.box g e), fun g e hv => ?_, Nat.le_trans h.base hc.size, h.chg.then_ hc (fun k hk hv => ?_), fun k hk => ?_⟩
  · rcases hs g hv with h1 | h1
    · exact h.ne g e h1
    · have := blk_lt (h.box g e); omega
  · rcases h.src k hv with h1 | h1
    · exact h1
    · omega
  · rcases hs k hk with h1 | h1
    · exact h.src k h1
    · exact .inr (by omega)
theorem BS.done {A : Option Addr} {n c : Nat} (h : BS w0 w base v0 (.slice A n c) bs gb obj) : Wrote base w0 v0 bs (.returned (.slice A n c)) w := ⟨A, n, c, rfl, h.own, h.chg, h.src⟩
theorem BS.cell {g : Nat} {cs : Array Value} {t : TypeId} (h : BS w0 w base v0 v bs (some g) (.cells cs t (0, 0))) (i : Nat) : w.cell? ⟨g, i, none⟩ = cs[i]? := blk_cell (h.box g rfl) i
/-- Below base nothing changes. -/
theorem BS.below (h : BS w0 w base v0 v bs gb obj) (hv : ∀ k, v0.ownBlock = some k → base ≤ k) (hb : base ≤ w0.heap.size) : Below base w0 w := h.chg.below hb hv
end
section
variable {P : Program} {ops : Array Oper} {rest : List Oper} {o : Oper} {a : Act} {w : World} {Q : Exit → Act → World → Prop}
/-- An append of bytes that are there. -/
theorem wpList_append_bb {w0 : World} {base base2 : Nat} {v0 : Value} {A B : Option Addr} {n c m c2 : Nat} {xs ys : List Value} {gb : Option Nat} {obj : Obj} (hg : o.guard = none) (s x : Operand)
    (ho : o.op = .call { callee := .builtin .append, args := #[s, x], argTypes := #[91, 91] }) (hs : a.eval s = .slice A n c) (hx : a.eval x = .slice B m c2)
    (hP : BS w0 w base v0 (.slice A n c) xs gb obj) (hY : BB w base2 (.slice B m c2) ys) (hy0 : 0 < ys.length) (hl : xs.length + ys.length ≤ 140737488355328)
    (h : ∀ A' n' c' w', BS w0 w' base v0 (.slice A' n' c') (xs ++ ys) gb obj → wpList Try.prog ops Q rest (a.put o.dst (.slice A' n' c')) w') : wpList Try.prog ops Q (o :: rest) a w := by
  obtain ⟨i0, hi, hzz⟩ := Option.map_eq_some_iff.1 info5
  simp only [Prod.mk.injEq] at hzz
  obtain ⟨hz0, hz1, hz2⟩ := hzz
  rcases hY.row.2 with ⟨_, h0⟩ | ⟨g, cap, cur, e, hg0, hgb, hc1, hc2, hc3, ht⟩
  · omega
  injection e with e1 e2 e3
  subst e1 e2 e3
  obtain ⟨v', w', hrun, hO, hgr, _, hat⟩ := run_append_own_at (P := Try.prog) w base 91 o.type 5 i0 (.int .u8 0) 1 1 und91 hi hz0 hz1 hz2 rfl (by decide) (.slice A n c) xs.length xs hP.own.row ⟨g, 0, none⟩ ys.length c2 ys (by rw [Nat.mul_one]) (hY.row.cells (g := g) rfl) (fun u hu => by obtain ⟨n_, rfl⟩ := hY.one u hu; rfl) (by simp only [maxLen]; omega) (by omega) hP.base
  have hO' : w'.ownsRow base 5 1 v' (xs ++ ys).length (xs ++ ys) := by rw [List.length_append]; exact hO
  obtain ⟨A', n', c', rfl⟩ : ∃ A' n' c', v' = .slice A' n' c' := by
    rcases hO'.2 with ⟨rfl, _⟩ | ⟨g', cap', cur', rfl, _⟩
    · exact ⟨_, _, _, rfl⟩
    · exact ⟨_, _, _, rfl⟩
  have hc : Chg w w' (fun k => (Value.slice A n c).ownBlock = some k) := Chg.grown (Chg.refl w _) hgr (fun b hb => .inl hb)
  have hB := hP.wrote ⟨hO', fun u hu => (List.mem_append.1 hu).elim (hP.own.one u) (hY.one u)⟩ hc fun k hk => by
    rcases hat with hat | hat
    · rw [hat] at hk; exact .inl hk
    · rw [hat] at hk; cases hk; exact .inr (Nat.le_refl _)
  refine wpList_plain hg fun K hK => ?_
  unfold Oper.wp execOp
  simp only [ho, resolve, invoke, builtin, Sem.run_bind, Sem.run_pure, Result.andThen_ok, List.map_toArray, List.map_cons, List.map_nil, hs, hx, hrun]
  exact hK _ _ (h A' n' c' w' hB)
end
end Go.Proofs.Ytjpeaeklhcnpnaa.K
