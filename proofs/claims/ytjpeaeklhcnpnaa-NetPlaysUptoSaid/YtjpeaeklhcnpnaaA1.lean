/- Bare messages; what a net and what was seen hold, told beside one block. No condition. -/
import Derived.Test.YtjpeaeklhcnpnaaD6
import Derived.Test.YtjpeaeklhcnpnaaS7
namespace Go.Proofs.Ytjpeaeklhcnpnaa.K
open Go.RowKit
set_option linter.unusedVariables false
set_option linter.unusedSimpArgs false
/-- A message of which but its kind and its ask are zero. -/
def bare (k a : Int) : Msg := { zMsg with Kind := k, Ask := a }
def bareC (k a : Int) : Array Value := mC (bare k a) (.slice none 0 0) (.slice none 0 0) (.slice none 0 0) (.slice none 0 0) (.slice none 0 0) (.slice none 0 0) (.slice none 0 0) (.slice none 0 0)
theorem nil_ok {α : Type} (d : Kd α) (w : World) (F : Nat → Prop) (n : Nat) : ([] : List α).length ≤ 0 ∧ ([] : List α).length * n ≤ 140737488355328 ∧ d.C w F none ([] : List α).length [] := ⟨Nat.le_refl _, by simp, Kd.C_nil' _ _ _ _⟩
theorem kMsg_bare (w : World) (F : Nat → Prop) (k a : Int) (hk : (Lit.int .i64 k).wf = true) (ha : (Lit.int .u64 a).wf = true) : kMsg.K w F (bare k a) (bareC k a).toList :=
  kMsg_mk w F (bare k a) hk rfl rfl rfl ha rfl rfl rfl rfl rfl (nil_ok _ w F _) (nil_ok _ w F _) rfl rfl rfl rfl (nil_ok _ w F _) rfl rfl (nil_ok _ w F _) rfl (nil_ok _ w F _) (nil_ok _ w F _) rfl rfl rfl rfl rfl rfl rfl rfl rfl rfl rfl rfl rfl rfl rfl (nil_ok _ w F _) (nil_ok _ w F _)
/-- Its kind stands first. -/
theorem kMsg_first {w : World} {F : Nat → Prop} {x : Msg} {cs : List Value} (h : kMsg.K w F x cs) : cs[0]? = some (.int .i64 x.Kind) ∧ cs[3]? = some (.int .u64 x.Id) ∧ cs[4]? = some (.int .u64 x.Ask) := by
  obtain ⟨d, m, t, k, s, a, g, p, rfl, _⟩ := kMsg_parts h
  exact ⟨rfl, rfl, rfl⟩
section
variable {w : World} {b : Nat} {ms : List Msg} {last : Int}
def After (b : Nat) : Nat → Prop := fun k => b < k
theorem after_chg {w w' : World} {F : Nat → Prop} (h : Chg w w' (fun k => F k ∨ k = b)) (hF : ∀ k, F k → b < k) (hb : b ≤ w.heap.size) : Below b w w' := h.below hb fun k hk => hk.elim (fun h => Nat.le_of_lt (hF k h)) (fun h => by omega)
theorem send_at (h : NetAt w (After b) b ms last) (x : Msg) (cs : List Value) (hx : kMsg.K w (fun k => k ≠ b) x cs) (hl0 : 0 ≤ last) (hl1 : last ≤ 1000000) (hm : (ms.length + 1) * 456 ≤ 140737488355328) :
    Calls Try.prog 13 #[.pointer (some ⟨b, 0, none⟩), .agg cs.toArray] w fun e w' => e = .returned (.int .u64 (last + 1)) ∧ NetAt w' (After b) b (ms ++ [withId x (last + 1)]) (last + 1) ∧ Below b w w' :=
  (send_any h x cs hx hl0 hl1 hm).mono fun e w' ⟨h1, h2, h3⟩ => ⟨h1, h2.mono (fun k hk => hk.elim (fun h => h) fun hk => Nat.lt_of_lt_of_le h.lt hk) (Nat.lt_irrefl b), after_chg h3 (fun k h => h) (Nat.le_of_lt h.lt)⟩
theorem twice_at (h : NetAt w (After b) b ms last) (i : Nat) (hi : i < ms.length) (hm : (ms.length + 1) * 456 ≤ 140737488355328) :
    Calls Try.prog 17 #[.pointer (some ⟨b, 0, none⟩), .int .i64 i] w fun e w' => e = .returned (.bool true) ∧ NetAt w' (After b) b (ms ++ [ms[i]]) last ∧ Below b w w' :=
  (twice_yes h i hi hm).mono fun e w' ⟨h1, h2, h3⟩ => ⟨h1, h2.mono (fun k hk => hk.elim (fun h => h) fun hk => Nat.lt_of_lt_of_le h.lt hk) (Nat.lt_irrefl b), after_chg h3 (fun k h => h) (Nat.le_of_lt h.lt)⟩
end
end Go.Proofs.Ytjpeaeklhcnpnaa.K
