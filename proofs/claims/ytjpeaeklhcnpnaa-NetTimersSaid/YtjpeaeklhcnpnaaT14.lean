/- The reference's Due by a contract. No condition but that the timers are few. -/
import Derived.Test.YtjpeaeklhcnpnaaT13
namespace Go.Proofs.Ytjpeaeklhcnpnaa.K
open Go.RowKit
set_option linter.unusedVariables false
set_option linter.unusedSimpArgs false
def RDuePost (w : World) (F0 : Nat → Prop) (b : Nat) (L : List (Int × Int)) (g : Int → Option Int) (now : Int) (e : Ending) (w' : World) : Prop :=
  ∃ v outs, e = .returned v ∧ DueList g now outs ∧ ROutAt w F0 b (lft L outs) outs v w'
/-- The rows' cells. -/
def RCells (w : World) (A : Option Addr) (M : List (Int × Int)) : Prop :=
  ∀ k (hk : k < M.length), ∃ g, A = some ⟨g, 0, none⟩ ∧ w.cell? ⟨g, k * 2, none⟩ = some (.int .u64 M[k].1) ∧ w.cell? ⟨g, k * 2 + 1, none⟩ = some (.int .i64 M[k].2) ∧ (Lit.int .u64 M[k].1).wf = true
theorem rcells {w : World} {F : Nat → Prop} {A : Option Addr} {c : Nat} {M : List (Int × Int)} (h2 : kTim.Own 113 w F 0 (.slice A M.length c) M) : RCells w A M := by
  intro k hk
  rcases Kd.Row_of_Own h2 with ⟨h0, _⟩ | ⟨g, rfl, _, _, hg, hR⟩
  · rw [h0] at hk; simp at hk
  · obtain ⟨cs, hr, hK⟩ := hR.get hk
    obtain ⟨rfl, hw1, hw2⟩ := kTim_open hK
    exact ⟨g, rfl, hr 0 _ rfl, hr 1 _ rfl, hw1⟩
theorem Drawn.drewN {w w' : World} (h : Drawn w w') (n : Nat) : Drawn w (w'.drewN n) := h
set_option maxHeartbeats 16000000 in
set_option maxRecDepth 100000 in
theorem rdue_any {w : World} {F0 : Nat → Prop} {b : Nat} {L : List (Int × Int)} {g : Int → Option Int} {now : Int} (hL : L.length ≤ 100000) (h : RTimAt w F0 b L) (hR : Rep g L) :
    Calls Try.prog 33 #[.pointer (some ⟨b, 0, none⟩), .int .i64 now] w (RDuePost w F0 b L g now) := by
  have HR := Aside.mk hR
  have H0 := Aside.mk (rout_start h)
  have hbl := h.lt
  have hlL := Aside.mk hL
  clear h hR hL
  go_enter Try.func33, Try.ntmps33
  go_wp2
  go_loopw [5] (fun v5 wr => ∃ (outs : List Int) (A5 : Option Addr) (n5 c5 : Nat), v5 = .slice A5 n5 c5 ∧ Aside (RInv g now L outs) ∧ Aside (outs.length + (lft L outs).length ≤ L.length) ∧ Aside (ROutAt w F0 b (lft L outs) outs (.slice A5 n5 c5) wr)) (fun _ wr => rLen wr b)
  case atStart => exact ⟨[], none, 0, 0, rfl, ⟨rinv_start g now L⟩, ⟨by rw [lft_nil]; simp⟩, ⟨by rw [lft_nil]; exact H0.out⟩⟩
  case round =>
    obtain ⟨outs, A5, n5, c5, rfl, HI, HN, HO⟩ := hrel
    obtain ⟨wo, rfl⟩ : ∃ wo : World, wo = wr := ⟨_, rfl⟩
    obtain ⟨M, hM⟩ : ∃ M, lft L outs = M := ⟨_, rfl⟩
    rw [hM] at HN HO
    have HM := Aside.mk hM
    obtain ⟨A, c, k0w, hcl, hlen⟩ : ∃ A c, wo.cell? ⟨b, 0, none⟩ = some (.slice A M.length c) ∧ RCells wo A M ∧ rLen wo b = M.length := by
      obtain ⟨F, G, h1, _⟩ := HO.out
      have hlen := rLen_eq h1
      obtain ⟨A, c, h2, h3, h4⟩ := h1
      exact ⟨A, c, (blk_cell h2 0).trans rfl, rcells h3, hlen⟩
    have HCL := Aside.mk hcl
    have HLEN := Aside.mk hlen
    have hml : M.length ≤ 100000 := by have h1 := HN.out; have h2 := hlL.out; omega
    clear hcl hM hlen
    go_wp2
    go_loopw [6, 7] (fun v6 v7 wr => ∃ (i : Nat) (lk : Int), i ≤ M.length ∧ v6 = .int .i64 lk ∧ v7 = .int .i64 i ∧ Aside (LScan M now i lk) ∧ Aside (Drawn wo wr)) (fun v6 v7 _ => M.length - (intOf v7).toNat)
    case atStart => exact ⟨0, -1, Nat.zero_le _, rfl, rfl, ⟨lscan_start M now⟩, ⟨Drawn.refl _⟩⟩
    case round =>
      obtain ⟨i, lk, hiM, rfl, rfl, HS, HD⟩ := hrel
      have k0 : wr.cell? ⟨b, 0, none⟩ = some (.slice A M.length c) := by rw [HD.out.cell]; exact k0w
      by_cases hlt : i < M.length
      · obtain ⟨gb, rfl, f1, f2, _⟩ := HCL.out i hlt
        rw [← HD.out.cell] at f1 f2
        obtain ⟨x, hx⟩ : ∃ x, M[i].1 = x := ⟨_, rfl⟩
        obtain ⟨u, hu⟩ : ∃ u, M[i].2 = u := ⟨_, rfl⟩
        rw [hx] at f1
        rw [hu] at f2
        have HX := Aside.mk (And.intro hx hu)
        clear hx hu k0w
        by_cases hdue : u ≤ now
        · rcases HS.out with ⟨rfl, _⟩ | ⟨j, hj, rfl, hji, _, _⟩
          · have HS' := Aside.mk (lscan_first HS.out hlt (by rw [HX.out.2]; exact hdue))
            go_upto_region 6 with fail
            simp only [List.append_eq, List.cons_append, List.nil_append]
            go_quiet (fail)
            go_wp2
            go_round
            case rel => exact ⟨i + 1, i, by omega, rfl, rfl, HS', ⟨HD.out.drewN _⟩⟩
            case measure => simp only [intOf]; omega
          · obtain ⟨gb', hgb', f3, f4, _⟩ := HCL.out j hj
            obtain rfl : gb = gb' := by simpa using hgb'
            rw [← HD.out.cell] at f3 f4
            obtain ⟨z, hz⟩ : ∃ z, M[j].1 = z := ⟨_, rfl⟩
            obtain ⟨a, ha⟩ : ∃ a, M[j].2 = a := ⟨_, rfl⟩
            rw [hz] at f3
            rw [ha] at f4
            have HZ := Aside.mk (And.intro hz ha)
            have hj0 : ¬ (j : Int) < 0 := by omega
            have hj1 : decide ((j : Int) < 0) = false := decide_eq_false hj0
            clear hz ha hgb'
            by_cases h1 : u < a
            · have HS' := Aside.mk (lscan_less HS.out hlt hj (by rw [HX.out.2]; exact hdue) (by unfold RLt; rw [HX.out.2, HZ.out.2]; exact .inl h1))
              go_upto_region 6 with fail
              simp only [List.append_eq, List.cons_append, List.nil_append]
              go_quiet (fail)
              go_wp2
              go_round
              case rel => exact ⟨i + 1, i, by omega, rfl, rfl, HS', ⟨HD.out.drewN _⟩⟩
              case measure => simp only [intOf]; omega
            · by_cases h2 : u = a
              · subst h2
                by_cases h3 : x < z
                · have HS' := Aside.mk (lscan_less HS.out hlt hj (by rw [HX.out.2]; exact hdue) (by unfold RLt; rw [HX.out.2, HZ.out.2, HX.out.1, HZ.out.1]; exact .inr ⟨rfl, h3⟩))
                  go_upto_region 6 with fail
                  simp only [List.append_eq, List.cons_append, List.nil_append]
                  go_quiet (fail)
                  go_wp2
                  go_round
                  case rel => exact ⟨i + 1, i, by omega, rfl, rfl, HS', ⟨HD.out.drewN _⟩⟩
                  case measure => simp only [intOf]; omega
                · have HS' := Aside.mk (lscan_not HS.out hlt hj (by unfold RLt; rw [HX.out.2, HZ.out.2, HX.out.1, HZ.out.1]; omega))
                  go_upto_region 6 with fail
                  simp only [List.append_eq, List.cons_append, List.nil_append]
                  go_quiet (fail)
                  go_wp2
                  go_round
                  case rel => exact ⟨i + 1, j, by omega, rfl, rfl, HS', ⟨HD.out.drewN _⟩⟩
                  case measure => simp only [intOf]; omega
              · have HS' := Aside.mk (lscan_not HS.out hlt hj (by unfold RLt; rw [HX.out.2, HZ.out.2]; omega))
                have h2' : (u == a) = false := by simpa using h2
                go_upto_region 6 with fail
                simp only [List.append_eq, List.cons_append, List.nil_append]
                go_quiet (fail)
                go_wp2
                go_round
                case rel => exact ⟨i + 1, j, by omega, rfl, rfl, HS', ⟨HD.out.drewN _⟩⟩
                case measure => simp only [intOf]; omega
        · have HS' := Aside.mk (lscan_late HS.out hlt (by rw [HX.out.2]; omega))
          have hdue' : decide (u ≤ now) = false := decide_eq_false hdue
          go_upto_region 6 with fail
          simp only [List.append_eq, List.cons_append, List.nil_append]
          go_quiet (fail)
          go_wp2
          go_round
          case rel => exact ⟨i + 1, lk, by omega, rfl, rfl, HS', ⟨HD.out.drewN _⟩⟩
          case measure => simp only [intOf]; omega
      · obtain rfl : i = M.length := by omega
        rcases HS.out with ⟨rfl, _⟩ | ⟨j, hj, rfl, hji, _, _⟩
        · have HE : Aside (RDuePost w F0 b L g now (.returned (.slice A5 n5 c5)) wr) := ⟨⟨_, outs, rfl, rinv_end HR.out HI.out (by rw [HM.out]; exact HS.out), by rw [HM.out]; exact rout_drawn HO.out HD.out⟩⟩
          go_wp2
          go_ret
          exact HE.out
        · have HRI := Aside.mk (rinv_step HR.out HI.out (j := j) (by rw [HM.out]; exact hj) (by rw [HM.out]; exact HS.out))
          obtain ⟨gb, rfl, f1, f2, hw⟩ := HCL.out j hj
          rw [← HD.out.cell] at f1 f2
          obtain ⟨F, G, h1, hP, hFG, hG, hGb, hcw⟩ := rout_pre (rout_drawn HO.out HD.out) hw
          have HLT := Aside.mk (flt_lt hj)
          obtain ⟨z, hz⟩ : ∃ z, M[j].1 = z := ⟨_, rfl⟩
          have HZ : Aside ((lft L outs)[j]'(by rw [HM.out]; exact hj) = M[j]) := ⟨by simp only [HM.out]⟩
          rw [HZ.out] at HRI
          rw [hz] at f1 hw hP HRI HLT
          have HP := Aside.mk hP
          have HG := Aside.mk (And.intro hFG (And.intro hG (And.intro hGb hcw)))
          have H1 := Aside.mk h1
          have HW := Aside.mk hw
          have hln : Aside ((outs.length + 1) * 8 ≤ 140737488355328) := ⟨by have h1 := HN.out; have h2 := hlL.out; omega⟩
          have HN' : Aside ((outs ++ [z]).length + (lft L (outs ++ [z])).length ≤ L.length) := ⟨by
            have h1 := HN.out
            have h2 := HLT.out
            rw [← lft_step, HM.out, List.length_append, List.length_singleton]
            omega⟩
          have hj0 : ¬ (j : Int) < 0 := by omega
          clear hz h1 hP hFG hG hGb hcw hw k0w HZ
          go_wp2_with (first
            | (go_at_call 32; refine HST.out.mono ?_; rintro e w8 ⟨rfl, h8, hc8⟩; have H8 := Aside.mk h8; have HO8 := Aside.mk (rout_stop (F0 := F0) H1.out HG.out.2.1 HG.out.2.2.1 HG.out.2.2.2 HE.out.2 HO7.out h8 hc8); clear h8 hc8)
            | (refine wpList_append_row kU 0 rfl (.tmp 101) (.tmp 103) 79 28 (.int .u64 0) 8 rfl und79 infoU rfl (Nat.zero_lt_succ 0) (Nat.zero_lt_succ 7) (.slice A5 n5 c5) outs [z] ⟨wr.heap.size, 0, none⟩ 1 1 (fun k => G k ∨ wr.heap.size ≤ k) (fun k => wr.heap.size ≤ k) (by rfl) (by rfl) ?a1 ?a2 ?a3 ?a4 ?a5 ?a6 ?a7; exact HP.out.own; exact HP.out.row; exact HP.out.far; exact HP.out.fresh; exact (Nat.zero_le _); exact hln.out; (intro v1 w7 hO hgr _); obtain ⟨A7, n7, c7, rfl⟩ : ∃ A7 n7 c7, v1 = .slice A7 n7 c7 := (by obtain ⟨A7, c7, e, _⟩ := Kd.Own_C hO; exact ⟨_, _, _, e⟩); have HE := Aside.mk (rout_append H1.out HP.out (fun k hk => (HG.out.1 k hk).1) HG.out.2.2.1 hgr); have HO7 := Aside.mk hO; have HST := Aside.mk (rstop_any hml HE.out.1 HW.out); clear hO hgr))
          go_round
          case rel => exact ⟨outs ++ [z], A7, n7, c7, rfl, HRI, HN', ⟨by rw [← lft_step, HM.out]; exact HO8.out⟩⟩
          case measure => rw [rLen_eq H8.out, HLEN.out]; exact HLT.out
end Go.Proofs.Ytjpeaeklhcnpnaa.K
