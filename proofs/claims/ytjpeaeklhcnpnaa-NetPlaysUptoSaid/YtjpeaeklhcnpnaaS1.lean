/- Maps with whole numbers for keys, told as functions. No condition. -/
import Derived.Test.YtjpeaeklhcnpnaaC7
import Derived.Maps.OwnSet
import Derived.Maps.OwnOps
import Derived.Maps.Ext
namespace Go.Proofs.Ytjpeaeklhcnpnaa.K
open Go.RowKit
set_option linter.unusedVariables false
set_option linter.unusedSimpArgs false
/-- An element is told as the value that it is. -/
def rv (v : Value) : Option (DataW Value × List MemPlace) := some (.held v, [])
/-- Block mb is a map of sz entries (made by at most n stores), told by f. -/
def MapAt (kt : TypeId) (q : IntKind) (w : World) (mb n sz : Nat) (f : Int → Option Value) : Prop :=
  ∃ D : DataW Value, w.ownsMap Try.prog kt rv mb n D ∧ Maps.size D = sz ∧ ∀ k, (Lit.int q k).wf = true → match f k with
    | none => Maps.has D (.int q k) = false
    | some v => Maps.has D (.int q k) = true ∧ ∀ z, D.atKey (.int q k) z = .held v
section
variable {kt : TypeId} {q : IntKind} {w w' : World} {mb n sz : Nat} {f : Int → Option Value} {t e : TypeId}
theorem MapAt.lt (h : MapAt kt q w mb n sz f) : mb < w.heap.size := by
  obtain ⟨D, h1, _⟩ := h
  exact h1.lt
theorem MapAt.made (kt : TypeId) (q : IntKind) (w : World) : MapAt kt q (w.alloc (.map #[] 0)) w.heap.size 0 0 (fun _ => none) :=
  ⟨.map [], World.ownsMap_made _ _ _ _, rfl, fun k _ => rfl⟩
theorem MapAt.same (h : MapAt kt q w mb n sz f) (hb : w'.heap[mb]? = w.heap[mb]?) : MapAt kt q w' mb n sz f := by
  obtain ⟨D, ⟨es, clock, h1, h2⟩, h3⟩ := h
  exact ⟨D, ⟨es, clock, hb.trans h1, h2⟩, h3⟩
theorem MapAt.chg {G : Nat → Prop} (h : MapAt kt q w mb n sz f) (hc : Chg w w' G) (hb : ¬ G mb) : MapAt kt q w' mb n sz f := h.same (hc.block mb h.lt hb)
theorem held_eq {v z : Value} {f : Option Value} {D : DataW Value} {kl : Lit} {ps : List MemPlace} (h4 : match f with
    | none => Maps.has D kl = false
    | some v => Maps.has D kl = true ∧ ∀ z, D.atKey kl z = .held v) (hv : rv v = some (D.atKey kl (.held z), ps)) : v = f.getD z ∧ Maps.has D kl = f.isSome := by
  simp only [rv, Option.some.injEq, Prod.mk.injEq] at hv
  have hv1 := hv.1
  cases f with
  | none =>
    rw [Maps.atKey_of_not_has h4] at hv1
    injection hv1 with h
    exact ⟨h, h4⟩
  | some u =>
    rw [h4.2] at hv1
    injection hv1 with h
    exact ⟨h, h4.1⟩
theorem MapAt.look (h : MapAt kt q w mb n sz f) (hk : Try.prog.underlying kt = some (.int q)) (ht : Try.prog.underlying t = some (.map kt e)) {z : Value} (hz : (zeroValue e).run Try.prog w = .ok z w) {k : Int} (hw : (Lit.int q k).wf = true) :
    (Instr.lookup t (.map (some mb)) (.int q k) false).run Try.prog w = .ok ((f k).getD z) w := by
  obtain ⟨D, h1, h2, h3⟩ := h
  obtain ⟨v, ps, hrun, hv⟩ := h1.lookup (Maps.int_keyed hk) ht hz (show rv z = some (.held z, []) from rfl) (Maps.keyOf_int_mk hk hw)
  rw [hrun, (held_eq (h3 k hw) hv).1]
theorem MapAt.look_ok (h : MapAt kt q w mb n sz f) (hk : Try.prog.underlying kt = some (.int q)) (ht : Try.prog.underlying t = some (.map kt e)) {z : Value} (hz : (zeroValue e).run Try.prog w = .ok z w) {k : Int} (hw : (Lit.int q k).wf = true) :
    (Instr.lookup t (.map (some mb)) (.int q k) true).run Try.prog w = .ok (.tuple #[(f k).getD z, .bool (f k).isSome]) w := by
  obtain ⟨D, h1, h2, h3⟩ := h
  obtain ⟨v, ps, hrun, hv⟩ := h1.look_ok (Maps.int_keyed hk) ht hz (show rv z = some (.held z, []) from rfl) (Maps.keyOf_int_mk hk hw)
  rw [hrun, (held_eq (h3 k hw) hv).1, (held_eq (h3 k hw) hv).2]
theorem lit_ne {k k' : Int} (h : k' ≠ k) : Lit.int q k' ≠ Lit.int q k := by
  intro e
  injection e with _ e
  exact h e
theorem MapAt.put (h : MapAt kt q w mb n sz f) (hk : Try.prog.underlying kt = some (.int q)) (ht : Try.prog.underlying t = some (.map kt e)) (hn : n < 9223372036854775807) {k : Int} (hw : (Lit.int q k).wf = true) (v : Value) :
    ∃ w', (Instr.mapUpdate t (.map (some mb)) (.int q k) v).run Try.prog w = .ok () w' ∧ MapAt kt q w' mb (n + 1) (if (f k).isSome then sz else sz + 1) (fun k' => if k' = k then some v else f k') ∧ w.grownBy w' (some mb) := by
  obtain ⟨D, h1, h2, h3⟩ := h
  obtain ⟨w', hrun, h4, h5⟩ := h1.update (Maps.int_keyed hk) ht (by simp only [maxLen]; omega) (Maps.keyOf_int_mk hk hw) (show rv v = some (.held v, []) from rfl)
  have hm := h1.isMap
  refine ⟨w', hrun, ⟨_, h4, ?_, fun k' hw' => ?_⟩, h5⟩
  · rw [Maps.size_put (h1.tidy (Maps.int_keyed hk)), h2]
    have h6 := h3 k hw
    cases hf : f k with
    | none => rw [hf] at h6; simp [h6]
    | some u => rw [hf] at h6; simp [h6.1]
  · by_cases e : k' = k
    · subst e
      simp only [if_true]
      exact ⟨Maps.has_put_same hm (show WideAt.IsKeyLit (.int q k') from trivial) _, fun z => Maps.atKey_put_same hm (show WideAt.IsKeyLit (.int q k') from trivial) _ _⟩
    · have h6 := h3 k' hw'
      simp only [if_neg e]
      rw [Maps.has_put_other (lit_ne e)]
      cases hf : f k' with
      | none => rw [hf] at h6; exact h6
      | some u => rw [hf] at h6; exact ⟨h6.1, fun z => by rw [Maps.atKey_put_other (lit_ne e)]; exact h6.2 z⟩
theorem MapAt.len (h : MapAt kt q w mb n sz f) (ht : Try.prog.underlying t = some (.map kt e)) (ty : TypeId) : (Builtin.len_ #[t] ty #[.map (some mb)]).run Try.prog w = .ok (.int .i64 sz) w := by
  obtain ⟨D, h1, h2, h3⟩ := h
  rw [h1.len ht ty, h2]
theorem MapAt.drop (h : MapAt kt q w mb n sz f) (hk : Try.prog.underlying kt = some (.int q)) (ht : Try.prog.underlying t = some (.map kt e)) {k : Int} (hw : (Lit.int q k).wf = true) (ty : TypeId) :
    ∃ w', (Builtin.delete_ #[t, kt] ty #[.map (some mb), .int q k]).run Try.prog w = .ok (.tuple #[]) w' ∧ MapAt kt q w' mb n (if (f k).isSome then sz - 1 else sz) (fun k' => if k' = k then none else f k') ∧ w.grownBy w' (some mb) := by
  obtain ⟨D, h1, h2, h3⟩ := h
  obtain ⟨w', hrun, h4, h5⟩ := h1.drop (Maps.int_keyed hk) ht (Maps.keyOf_int_mk hk hw) ty
  refine ⟨w', hrun, ⟨_, h4, ?_, fun k' hw' => ?_⟩, h5.grown⟩
  · have h7 := Maps.size_del (k := .int q k) (h1.tidy (Maps.int_keyed hk))
    rw [h2] at h7
    have h6 := h3 k hw
    cases hf : f k with
    | none =>
      rw [hf] at h6
      simp only [h6, Bool.false_eq_true, if_false] at h7
      simpa using h7
    | some u =>
      rw [hf] at h6
      simp only [h6.1, if_true] at h7
      simp only [Option.isSome_some, if_true]
      omega
  · by_cases e : k' = k
    · subst e
      simp only [if_true]
      exact Maps.has_del_same
    · have h6 := h3 k' hw'
      simp only [if_neg e]
      rw [Maps.has_del_other (lit_ne e)]
      cases hf : f k' with
      | none => rw [hf] at h6; exact h6
      | some u => rw [hf] at h6; exact ⟨h6.1, fun z => by rw [Maps.atKey_del_other (lit_ne e)]; exact h6.2 z⟩
end
end Go.Proofs.Ytjpeaeklhcnpnaa.K
