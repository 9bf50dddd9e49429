/- A net in memory; net.New, Waiting, Peek by contracts. No condition. -/
import Derived.Test.YtjpeaeklhcnpnaaC6
import Derived.Test.YtjpeaeklhcnpnaaC7
namespace Go.Proofs.Ytjpeaeklhcnpnaa.K
open Go.RowKit
set_option linter.unusedVariables false
set_option linter.unusedSimpArgs false
/-- Block b is a net: the messages ms, the last number; what it reaches lies in F. -/
def NetAt (w : World) (F : Nat → Prop) (b : Nat) (ms : List Msg) (last : Int) : Prop :=
  ∃ A c, w.heap[b]? = some (.cells #[.slice A ms.length c, .int .u64 last] 88 (0, 0)) ∧ kMsg.Own 54 w F 0 (.slice A ms.length c) ms ∧ ¬ F b
theorem NetAt.mono {w : World} {F F' : Nat → Prop} {b : Nat} {ms : List Msg} {last : Int} (h : NetAt w F b ms last) (hF : ∀ k, F k → F' k) (hb : ¬ F' b) : NetAt w F' b ms last := by
  obtain ⟨A, c, h1, h2, h3⟩ := h
  exact ⟨A, c, h1, Kd.Own_mono h2 hF, hb⟩
theorem NetAt.lt {w : World} {F : Nat → Prop} {b : Nat} {ms : List Msg} {last : Int} (h : NetAt w F b ms last) : b < w.heap.size := by
  obtain ⟨A, c, h1, h2, h3⟩ := h
  exact blk_lt h1
theorem NetAt.known {w : World} {F : Nat → Prop} {b : Nat} {ms : List Msg} {last : Int} (h : NetAt w F b ms last) : NetAt w (fun k => F k ∧ k < w.heap.size) b ms last := by
  obtain ⟨A, c, h1, h2, h3⟩ := h
  exact ⟨A, c, h1, Kd.Own_lt h2, fun hk => h3 hk.1⟩
theorem NetAt.chg {w w' : World} {F G : Nat → Prop} {b : Nat} {ms : List Msg} {last : Int} (h : NetAt w F b ms last) (hc : Chg w w' G) (hF : ∀ k, F k → ¬ G k) (hb : ¬ G b) : NetAt w' F b ms last := by
  obtain ⟨A, c, h1, h2, h3⟩ := h
  exact ⟨A, c, hc.keeps h1 hb, Kd.Own_move (fun k hk hl => hc.block k hl (hF k hk)) h2, h3⟩
theorem NetAt.fits {w : World} {F : Nat → Prop} {b : Nat} {ms : List Msg} {last : Int} (h : NetAt w F b ms last) : ms.length ≤ 9223372036854775807 := by
  obtain ⟨A, c, h1, h2, h3⟩ := h
  obtain ⟨_, _, hC⟩ := Own_got h2
  exact hC.2.1

theorem waiting_nil (w : World) : Calls Try.prog 22 #[.pointer none] w fun e w' => e = .returned (.int .i64 0) ∧ w' = w := by
  go_enter Try.func22, Try.ntmps22
  go_wp2
  go_ret
  exact ⟨rfl, rfl⟩
theorem waiting_any {w : World} {F : Nat → Prop} {b : Nat} {ms : List Msg} {last : Int} (h : NetAt w F b ms last) : Calls Try.prog 22 #[.pointer (some ⟨b, 0, none⟩)] w fun e w' => e = .returned (.int .i64 ms.length) ∧ w' = w := by
  have hn := h.fits
  obtain ⟨A, c, h1, h2, h3⟩ := h
  have f0 : w.cell? ⟨b, 0, none⟩ = some (.slice A ms.length c) := (blk_cell h1 0).trans rfl
  clear h1 h2 h3
  go_enter Try.func22, Try.ntmps22
  go_wp2
  go_ret
  exact ⟨rfl, rfl⟩
theorem new_any (w : World) : Calls Try.prog 9 #[] w fun e w' => e = .returned (.pointer (some ⟨w.heap.size, 0, none⟩)) ∧ NetAt w' (fun k => w.heap.size < k) w.heap.size [] 0 ∧ Below w.heap.size w w' := by
  go_enter Try.func9, Try.ntmps9
  go_wp2
  go_ret
  exact ⟨rfl, ⟨none, 0, blk_new _ _, Kd.Own_nil _ _ _ _ _, by simp⟩, below_alloc (Below.refl _ _) _⟩
end Go.Proofs.Ytjpeaeklhcnpnaa.K
