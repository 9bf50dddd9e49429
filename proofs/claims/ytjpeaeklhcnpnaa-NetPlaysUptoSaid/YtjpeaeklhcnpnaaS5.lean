/- slices.BinarySearch over a rising row of numbers by a contract. No condition. -/
import Derived.Test.YtjpeaeklhcnpnaaS4
namespace Go.Proofs.Ytjpeaeklhcnpnaa.K
open Go.RowKit
set_option linter.unusedVariables false
set_option linter.unusedSimpArgs false
theorem less_any (a b : Int) (w : World) : Calls Try.prog 64 #[.int .u64 a, .int .u64 b] w fun e w' => e = .returned (.bool (decide (a < b))) ∧ w' = w := by
  go_enter Try.func64, Try.ntmps64
  go_wp2
  go_ret
  exact ⟨rfl, rfl⟩
theorem nan_any (a : Int) (w : World) : Calls Try.prog 65 #[.int .u64 a] w fun e w' => e = .returned (.bool false) ∧ w' = w := by
  go_enter Try.func65, Try.ntmps65
  go_wp2
  go_ret
  exact ⟨by simp, rfl⟩
/-- Where t belongs. -/
def Place (xs : List Int) (t : Int) (i : Nat) : Prop := i ≤ xs.length ∧ (∀ j x, xs[j]? = some x → j < i → x < t) ∧ (∀ j x, xs[j]? = some x → i ≤ j → t ≤ x)
def SearchPost (xs : List Int) (t : Int) (w : World) (e : Ending) (w' : World) : Prop := ∃ i : Nat, e = .returned (.tuple #[.int .i64 i, .bool (decide (t ∈ xs))]) ∧ Place xs t i ∧ w' = w
theorem place_mem {xs : List Int} {t : Int} {i : Nat} (hs : xs.Pairwise (· < ·)) (h : Place xs t i) : t ∈ xs ↔ xs[i]? = some t := by
  constructor
  · intro hm
    obtain ⟨j, hj, rfl⟩ := List.mem_iff_getElem.1 hm
    have h1 : i ≤ j := by
      rcases Nat.lt_or_ge j i with hlt | hge
      · have := h.2.1 j _ (List.getElem?_eq_getElem hj) hlt; omega
      · exact hge
    rcases Nat.lt_or_ge i j with hlt | hge
    · have hi : i < xs.length := by omega
      have h2 := h.2.2 i _ (List.getElem?_eq_getElem hi) (Nat.le_refl _)
      have h3 := (List.pairwise_iff_getElem.1 hs) i j hi hj hlt
      omega
    · obtain rfl : i = j := by omega
      exact List.getElem?_eq_getElem hj
  · exact fun h => List.mem_iff_getElem?.2 ⟨i, h⟩
set_option maxHeartbeats 4000000 in
set_option maxRecDepth 100000 in
theorem search_any {w : World} {g off c : Nat} {xs : List Int} (h : URow w g off c xs) (hs : xs.Pairwise (· < ·)) (hsm : xs.length ≤ 1000000) (t : Int) :
    Calls Try.prog 39 #[.slice (some ⟨g, off, none⟩) xs.length c, .int .u64 t] w (SearchPost xs t w) := by
  have hcell : ∀ k (hk : k < xs.length), w.cell? ⟨g, off + k, none⟩ = some (.int .u64 xs[k]) := fun k hk => h.at_ k _ (List.getElem?_eq_getElem hk)
  have HC := Aside.mk hcell
  have HS := Aside.mk hs
  clear h hcell hs
  go_enter Try.func39, Try.ntmps39
  go_wp2
  go_loop [7, 8] (fun v7 v8 => ∃ i j : Nat, i ≤ j ∧ j ≤ xs.length ∧ v7 = .int .i64 i ∧ v8 = .int .i64 j ∧ Aside (∀ k (hk : k < xs.length), (k < i → xs[k] < t) ∧ (j ≤ k → t ≤ xs[k]))) (fun v7 v8 => (intOf v8).toNat - (intOf v7).toNat)
  case atStart => exact ⟨0, xs.length, Nat.zero_le _, Nat.le_refl _, rfl, rfl, ⟨fun k hk => ⟨fun h => by omega, fun h => by omega⟩⟩⟩
  case round =>
    obtain ⟨i, j, hij, hj, rfl, rfl, HR⟩ := hrel
    by_cases hlt : i < j
    · have hm : (i + j) / 2 < xs.length := by omega
      have f := HC.out _ hm
      obtain ⟨x, hx⟩ : ∃ x, xs[(i + j) / 2] = x := ⟨_, rfl⟩
      rw [hx] at f
      have HX := Aside.mk hx
      clear hx
      by_cases hxt : x < t
      · go_wp2_with (go_at_call 64; refine (less_any _ _ _).mono ?_; rintro e w' ⟨rfl, rfl⟩)
        go_round
        case rel =>
          refine ⟨(i + j) / 2 + 1, j, by omega, hj, by congr 1, rfl, ⟨fun k hk => ⟨fun h => ?_, fun h => (HR.out k hk).2 h⟩⟩⟩
          rcases Nat.lt_or_ge k ((i + j) / 2) with h1 | h1
          · have := (List.pairwise_iff_getElem.1 HS.out) k _ hk hm h1
            have := HX.out
            omega
          · obtain rfl : k = (i + j) / 2 := by omega
            rw [HX.out]
            exact hxt
        case measure => simp [intOf]; omega
      · go_wp2_with (go_at_call 64; refine (less_any _ _ _).mono ?_; rintro e w' ⟨rfl, rfl⟩)
        go_round
        case rel =>
          refine ⟨i, (i + j) / 2, by omega, by omega, rfl, by congr 1, ⟨fun k hk => ⟨fun h => (HR.out k hk).1 h, fun h => ?_⟩⟩⟩
          rcases Nat.lt_or_ge ((i + j) / 2) k with h1 | h1
          · have := (List.pairwise_iff_getElem.1 HS.out) _ k hm hk h1
            have := HX.out
            omega
          · obtain rfl : k = (i + j) / 2 := by omega
            rw [HX.out]
            omega
        case measure => simp [intOf]; omega
    · obtain rfl : i = j := by omega
      have HP : Aside (Place xs t i) := ⟨hj, fun k x hk h => by
        have hl := (List.getElem?_eq_some_iff.1 hk).1
        rw [List.getElem?_eq_getElem hl] at hk
        injection hk with hk
        subst hk
        exact (HR.out k hl).1 h, fun k x hk h => by
        have hl := (List.getElem?_eq_some_iff.1 hk).1
        rw [List.getElem?_eq_getElem hl] at hk
        injection hk with hk
        subst hk
        exact (HR.out k hl).2 h⟩
      by_cases hin : i < xs.length
      · have f := HC.out i hin
        have HM := Aside.mk ((place_mem HS.out HP.out).trans (by rw [List.getElem?_eq_getElem hin]; simp : xs[i]? = some t ↔ xs[i] = t))
        generalize xs[i] = x at *
        by_cases hxt : x = t
        · subst hxt
          have HD := Aside.mk (decide_eq_true (HM.out.2 rfl))
          clear HM
          go_wp2_with (go_at_call 65; refine (nan_any _ _).mono ?_; rintro e w' ⟨rfl, rfl⟩)
          go_ret2
          exact ⟨i, by rw [HD.out]; rfl, HP.out, rfl⟩
        · have HD := Aside.mk (decide_eq_false (fun h => hxt (HM.out.1 h)))
          have hb : (x == t) = false := by simpa using hxt
          clear HM hxt
          go_wp2_with (go_at_call 65; refine (nan_any _ _).mono ?_; rintro e w' ⟨rfl, rfl⟩)
          go_ret2
          exact ⟨i, by rw [HD.out]; rfl, HP.out, rfl⟩
      · have HD := Aside.mk (decide_eq_false (p := t ∈ xs) (fun h => by
          have := (place_mem HS.out HP.out).1 h
          rw [List.getElem?_eq_none (by omega)] at this
          cases this))
        go_wp2
        go_ret2
        exact ⟨i, by rw [HD.out]; rfl, HP.out, rfl⟩
set_option maxHeartbeats 1000000 in
theorem search_nil (w : World) (t : Int) : Calls Try.prog 39 #[.slice none 0 0, .int .u64 t] w (SearchPost [] t w) := by
  go_enter Try.func39, Try.ntmps39
  go_wp2
  refine wp_loop_rounds 1 ?_
  rw [rounds_succ]
  go_wp2
  go_ret2
  exact ⟨0, rfl, ⟨Nat.zero_le _, fun j x hj => by simp at hj, fun j x hj => by simp at hj⟩, rfl⟩
theorem search_sl {w : World} {F : Nat → Prop} {A : Option Addr} {c : Nat} {xs : List Int} (h : USl w F (.slice A xs.length c) xs) (hs : xs.Pairwise (· < ·)) (hsm : xs.length ≤ 1000000) (t : Int) : Calls Try.prog 39 #[.slice A xs.length c, .int .u64 t] w (SearchPost xs t w) := by
  rcases h with ⟨h1, rfl⟩ | ⟨g, off, cap, h1, hFg, hr⟩
  · injection h1 with e1 e2 e3
    subst e1 e3
    exact search_nil w t
  · injection h1 with e1 e2 e3
    subst e1 e3
    exact search_any hr hs hsm t
end Go.Proofs.Ytjpeaeklhcnpnaa.K
