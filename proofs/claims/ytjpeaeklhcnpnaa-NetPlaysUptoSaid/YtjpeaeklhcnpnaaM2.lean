/- NetPlays: what one op does to the two nets, by contracts. No condition but small numbers. -/
import Derived.Test.YtjpeaeklhcnpnaaM1
namespace Go.Proofs.Ytjpeaeklhcnpnaa.K
open Go.RowKit
set_option linter.unusedVariables false
set_option linter.unusedSimpArgs false
/-- The program's net did its part. -/
def Did (V : World) (nb : Nat) (F : Nat → Prop) (ms' : List Msg) (last' : Int) (w4 : World) : Prop :=
  ∃ F' : Nat → Prop, NetAt w4 F' nb ms' last' ∧ (∀ k, F' k → F k ∨ V.heap.size ≤ k) ∧ Chg V w4 (fun k => F k ∨ k = nb)
/-- What a Peek tells. -/
def PeekGot (Q : Nat → Prop) (x : Msg) (f : Bool) (w : World) (e : Ending) (w' : World) : Prop := ∃ cs, e = .returned (.tuple #[.agg cs.toArray, .bool f]) ∧ kMsg.K w' Q x cs ∧ Below w.heap.size w w'
theorem kMsg_zero (w : World) (F : Nat → Prop) : kMsg.K w F (bare 0 0) mZ.toList := kMsg_bare w F 0 0 rfl rfl
theorem PeekNo.got {w w' : World} {e : Ending} (Q : Nat → Prop) (h : PeekNo w e w') : PeekGot Q (bare 0 0) false w e w' := by
  obtain ⟨h1, h2⟩ := h
  exact ⟨mZ.toList, by rw [h1, Array.toArray_toList], kMsg_zero _ _, h2⟩
section
variable {w wr V w4 w5 : World} {nb rb i : Nat} {F G F' G' : Nat → Prop} {ms ms' : List Msg} {last last' : Int}
theorem Did.still (h : PAt w nb rb i F G ms last V) : Did V nb F ms last V := ⟨F, h.net, fun k hk => .inl hk, Chg.refl _ _⟩
theorem Did.chg (h : Did V nb F ms' last' w4) : Chg V w4 (fun k => F k ∨ k = nb) := by obtain ⟨_, _, _, h⟩ := h; exact h
theorem Did.later (h : Did V nb F ms' last' w4) (hc : Chg w4 w5 NoF) : Did V nb F ms' last' w5 := by
  obtain ⟨F', h1, h2, h3⟩ := h
  exact ⟨F', h1.chg hc (fun _ _ h => h) (fun h => h), h2, h3.then_ hc (fun _ _ h => h.elim)⟩
theorem Did.fin (hd : Did V nb F ms' last' w4) (h : PAt w nb rb i F G ms last V) (hR : RNetAt w.heap.size w5 G' rb ms' last') (hc5 : Chg w4 w5 (fun k => G k ∨ k = rb)) (hG' : ∀ k, G' k → G k ∨ w4.heap.size ≤ k)
    (h1 : ms'.length ≤ i + 1) (h2 : 0 ≤ last') (h3 : last' ≤ (i : Int) + 1) (h4 : ∀ y ∈ ms', (putV y).length + 100 ≤ 140737488355328) : PLoop w nb rb (i + 1) w5 := by
  obtain ⟨F', hN, hF', hc4⟩ := hd
  exact h.step hN hc4 hF' hR hc5 hG' h1 h2 h3 h4
theorem Did.ref (hd : Did V nb F ms' last' w4) (h : PAt w nb rb i F G ms last V) : RNetAt w.heap.size w4 G rb ms last := h.mid hd.chg
/-! ### Send -/
theorem p_send (h : PAt w nb rb i F G ms last V) (hi : i ≤ 100) (x : Msg) (cs : List Value) (hx : kMsg.K V (fun k => k < w.heap.size) x cs) :
    Calls Try.prog 13 #[.pointer (some ⟨nb, 0, none⟩), .agg cs.toArray] V fun e w4 => e = .returned (.int .u64 (last + 1)) ∧ Did V nb F (ms ++ [withId x (last + 1)]) (last + 1) w4 := by
  have hn := h.hn
  have h1 := h.l0
  have h2 := h.l1
  have h3 := h.len
  refine (send_any h.net x cs (kMsg.mono (fun k hk => by omega) hx) h.l0 (by omega) (by omega)).mono ?_
  rintro e w4 ⟨rfl, hN, hc⟩
  exact ⟨rfl, _, hN, fun k hk => hk, hc⟩
theorem p_rsend (h : PAt w nb rb i F G ms last V) (hi : i ≤ 100) (x : Msg) (cs : List Value) (hsm : (putV x).length + 200 ≤ 140737488355328) (hd : Did V nb F (ms ++ [withId x (last + 1)]) (last + 1) w4) (hx : kMsg.K w4 (fun k => k < w.heap.size) x cs) :
    Calls Try.prog 14 #[.pointer (some ⟨rb, 0, none⟩), .agg cs.toArray] w4 fun e w5 => e = .returned (.int .u64 (last + 1)) ∧ PLoop w nb rb (i + 1) w5 ∧ Chg w4 w5 (fun k => G k ∨ k = rb) := by
  have h1 := h.l0
  have h2 := h.l1
  have h3 := h.len
  refine (rsend_any (hd.ref h) x cs hx h.l0 (by omega) (by omega)).mono ?_
  rintro e w5 ⟨rfl, hR, hc⟩
  refine ⟨rfl, hd.fin h hR hc (fun k hk => hk) (by rw [List.length_append, List.length_singleton]; omega) (by omega) (by omega) (fun y hy => ?_), hc⟩
  rcases List.mem_append.1 hy with hy | hy
  · exact h.small y hy
  · rw [List.mem_singleton] at hy
    subst hy
    have := putV_id x (last + 1)
    omega
/-! ### Lose -/
theorem p_lose (h : PAt w nb rb i F G ms last V) (hi : i ≤ 100) (I : Int) : ∃ (r : Bool) (ms' : List Msg),
    Calls Try.prog 15 #[.pointer (some ⟨nb, 0, none⟩), .int .i64 I] V (fun e w4 => e = .returned (.bool r) ∧ Did V nb F ms' last w4) ∧
    ∀ w4, Did V nb F ms' last w4 → Calls Try.prog 16 #[.pointer (some ⟨rb, 0, none⟩), .int .i64 I] w4 fun e w5 => e = .returned (.bool r) ∧ PLoop w nb rb (i + 1) w5 ∧ Chg w4 w5 (fun k => k = rb) := by
  have h1 := h.l0
  have h2 := h.l1
  have h3 := h.len
  by_cases hI : I < 0 ∨ (ms.length : Int) ≤ I
  · refine ⟨false, ms, (lose_no h.net I hI).mono ?_, fun w4 hd => (rlose_no (hd.ref h) I hI).mono ?_⟩
    · rintro e w' ⟨rfl, hw⟩
      obtain rfl := hw.symm
      exact ⟨rfl, Did.still h⟩
    · rintro e w' ⟨rfl, hw⟩
      obtain rfl := hw.symm
      exact ⟨rfl, hd.fin h (hd.ref h) (Chg.refl _ _) (fun k hk => .inl hk) (by omega) (by omega) (by omega) h.small, Chg.refl _ _⟩
  · obtain ⟨n, rfl⟩ := Int.eq_ofNat_of_zero_le (show 0 ≤ I by omega)
    have hn : n < ms.length := by omega
    refine ⟨true, ms.eraseIdx n, (lose_yes h.net n hn).mono ?_, fun w4 hd => (rlose_yes (hd.ref h) n hn (by omega)).mono ?_⟩
    · rintro e w' ⟨rfl, hN, hc⟩
      exact ⟨rfl, F, hN, fun k hk => .inl hk, hc⟩
    · rintro e w' ⟨rfl, hR, hc⟩
      refine ⟨rfl, hd.fin h hR (hc.mono fun k _ hk => .inr hk) (fun k hk => hk) ?_ (by omega) (by omega) (fun y hy => h.small y (List.mem_of_mem_eraseIdx hy)), hc⟩
      have := List.length_eraseIdx_le ms n
      omega
/-! ### Twice -/
theorem p_twice (h : PAt w nb rb i F G ms last V) (hi : i ≤ 100) (I : Int) : ∃ (r : Bool) (ms' : List Msg),
    Calls Try.prog 17 #[.pointer (some ⟨nb, 0, none⟩), .int .i64 I] V (fun e w4 => e = .returned (.bool r) ∧ Did V nb F ms' last w4) ∧
    ∀ w4, Did V nb F ms' last w4 → Calls Try.prog 18 #[.pointer (some ⟨rb, 0, none⟩), .int .i64 I] w4 fun e w5 => e = .returned (.bool r) ∧ PLoop w nb rb (i + 1) w5 ∧ Chg w4 w5 (fun k => G k ∨ k = rb) := by
  have h1 := h.l0
  have h2 := h.l1
  have h3 := h.len
  by_cases hI : I < 0 ∨ (ms.length : Int) ≤ I
  · refine ⟨false, ms, (twice_no h.net I hI).mono ?_, fun w4 hd => (rtwice_no (hd.ref h) I hI).mono ?_⟩
    · rintro e w' ⟨rfl, hb⟩
      exact ⟨rfl, (Did.still h).later (Chg.of_below hb _)⟩
    · rintro e w' ⟨rfl, hw⟩
      obtain rfl := hw.symm
      exact ⟨rfl, hd.fin h (hd.ref h) (Chg.refl _ _) (fun k hk => .inl hk) (by omega) (by omega) (by omega) h.small, Chg.refl _ _⟩
  · obtain ⟨n, rfl⟩ := Int.eq_ofNat_of_zero_le (show 0 ≤ I by omega)
    have hn : n < ms.length := by omega
    refine ⟨true, ms ++ [ms[n]], (twice_yes h.net n hn (by omega)).mono ?_, fun w4 hd => (rtwice_yes (hd.ref h) n hn (by omega)).mono ?_⟩
    · rintro e w' ⟨rfl, hN, hc⟩
      exact ⟨rfl, _, hN, fun k hk => hk, hc⟩
    · rintro e w' ⟨rfl, hR, hc⟩
      refine ⟨rfl, hd.fin h hR hc (fun k hk => hk) (by rw [List.length_append, List.length_singleton]; omega) (by omega) (by omega) (fun y hy => ?_), hc⟩
      rcases List.mem_append.1 hy with hy | hy
      · exact h.small y hy
      · rw [List.mem_singleton] at hy
        exact hy ▸ h.small _ (List.getElem_mem hn)
/-! ### Deliver -/
theorem p_deliver (h : PAt w nb rb i F G ms last V) (hi : i ≤ 100) (I : Int) : ∃ (f : Bool) (x : Msg) (ms' : List Msg), (putV x).length + 100 ≤ 140737488355328 ∧
    Calls Try.prog 19 #[.pointer (some ⟨nb, 0, none⟩), .int .i64 I] V (fun e w4 => ∃ cs, e = .returned (.tuple #[.agg cs.toArray, .bool f]) ∧ kMsg.K w4 (New V) x cs ∧ Did V nb F ms' last w4) ∧
    ∀ w4, Did V nb F ms' last w4 → Calls Try.prog 20 #[.pointer (some ⟨rb, 0, none⟩), .int .i64 I] w4 (PeekGot (fun k => k ≠ rb) x f w4) ∧
      Calls Try.prog 16 #[.pointer (some ⟨rb, 0, none⟩), .int .i64 I] w4 fun e w5 => (∃ r : Bool, e = .returned (.bool r)) ∧ PLoop w nb rb (i + 1) w5 ∧ Chg w4 w5 (fun k => k = rb) := by
  have h1 := h.l0
  have h2 := h.l1
  have h3 := h.len
  by_cases hI : I < 0 ∨ (ms.length : Int) ≤ I
  · refine ⟨false, bare 0 0, ms, by have := putV_zero; omega, (deliver_no h.net I hI).mono ?_, fun w4 hd => ⟨(rpeek_no (hd.ref h) I hI).mono fun e w' hh => hh.got _, (rlose_no (hd.ref h) I hI).mono ?_⟩⟩
    · intro e w' hh
      obtain ⟨cs, rfl, hK, hb⟩ := hh.got (New V)
      exact ⟨cs, rfl, hK, (Did.still h).later (Chg.of_below hb _)⟩
    · rintro e w' ⟨rfl, hw⟩
      obtain rfl := hw.symm
      exact ⟨⟨_, rfl⟩, hd.fin h (hd.ref h) (Chg.refl _ _) (fun k hk => .inl hk) (by omega) (by omega) (by omega) h.small, Chg.refl _ _⟩
  · obtain ⟨n, rfl⟩ := Int.eq_ofNat_of_zero_le (show 0 ≤ I by omega)
    have hn : n < ms.length := by omega
    refine ⟨true, ms[n], ms.eraseIdx n, h.small _ (List.getElem_mem hn), (deliver_yes h.net n hn).mono ?_, fun w4 hd => ⟨(rpeek_yes (hd.ref h) n hn).mono ?_, (rlose_yes (hd.ref h) n hn (by omega)).mono ?_⟩⟩
    · rintro e w' ⟨cs, rfl, hK, hN, hc⟩
      exact ⟨cs, rfl, hK, F, hN, fun k hk => .inl hk, hc⟩
    · rintro e w' ⟨cs, rfl, hK, hb⟩
      refine ⟨cs, rfl, kMsg.mono (fun k hk e => ?_) hK, hb⟩
      subst e
      rcases hk with hk | hk
      · have := h.ref.hb; omega
      · exact h.ref.nF hk
    · rintro e w' ⟨rfl, hR, hc⟩
      refine ⟨⟨_, rfl⟩, hd.fin h hR (hc.mono fun k _ hk => .inr hk) (fun k hk => hk) ?_ (by omega) (by omega) (fun y hy => h.small y (List.mem_of_mem_eraseIdx hy)), hc⟩
      have := List.length_eraseIdx_le ms n
      omega
/-! ### Peek -/
theorem p_peek (h : PAt w nb rb i F G ms last V) (I : Int) : ∃ (f : Bool) (x : Msg), (putV x).length + 100 ≤ 140737488355328 ∧
    Calls Try.prog 23 #[.pointer (some ⟨nb, 0, none⟩), .int .i64 I] V (PeekGot Any x f V) ∧
    ∀ w4, Chg V w4 NoF → Calls Try.prog 20 #[.pointer (some ⟨rb, 0, none⟩), .int .i64 I] w4 (PeekGot Any x f w4) := by
  by_cases hI : I < 0 ∨ (ms.length : Int) ≤ I
  · exact ⟨false, bare 0 0, by have := putV_zero; omega, (peek_no h.net I hI).mono fun e w' hh => hh.got _, fun w4 hc => (rpeek_no (h.later hc).ref I hI).mono fun e w' hh => hh.got _⟩
  · obtain ⟨n, rfl⟩ := Int.eq_ofNat_of_zero_le (show 0 ≤ I by omega)
    have hn : n < ms.length := by omega
    refine ⟨true, ms[n], h.small _ (List.getElem_mem hn), (peek_yes h.net n hn).mono ?_, fun w4 hc => (rpeek_yes (h.later hc).ref n hn).mono ?_⟩
    · rintro e w' ⟨cs, rfl, hK, hb⟩
      exact ⟨cs, rfl, Kd.any hK, hb⟩
    · rintro e w' ⟨cs, rfl, hK, hb⟩
      exact ⟨cs, rfl, Kd.any hK, hb⟩
end
end Go.Proofs.Ytjpeaeklhcnpnaa.K
