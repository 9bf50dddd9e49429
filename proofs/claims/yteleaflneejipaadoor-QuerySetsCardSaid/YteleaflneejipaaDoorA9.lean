/- The law QuerySets walked. -/
import Derived.Test.YteleaflneejipaaDoorA7
import Derived.Test.YteleaflneejipaaDoorA8
import Derived.Deep.QuietTactic
import Derived.BigQuiet
namespace Go.Proofs.YteleaflneejipaaDoor
open Go.RowKit Go.Proofs.YteleaflneejipaaDoorW.PrintWords Go.Proofs.YteleaflneejipaaDoorW.PrintLast Go.Proofs.YteleaflneejipaaDoorW.PrintMore
set_option linter.unusedVariables false

def RowOk (w : World) (base s : Nat) (A : Option Addr) (n : Nat) : Prop := 0 < n → ∃ b cells t, A = some ⟨b, 0, none⟩ ∧ base ≤ b ∧ b ≠ s ∧ w.heap[b]? = some (.cells cells t (0, 0)) ∧ n ≤ cells.size
def Rows (w : World) (base s : Nat) (xs : List (List Int)) : Prop := ∀ i (h : i < xs.length), ∃ A c, w.cell? ⟨s, i, none⟩ = some (.slice A xs[i].length c) ∧ RowOk w base s A xs[i].length
theorem rows_of_R {w : World} {base : Nat} {ok : Nat → Prop} {A : Option Addr} {n c : Nat} {xs : List (List Int)} (h : Kd.R (Kd.slice 3 (Kd.int .i64)) 22 w base ok (.slice A n c) xs) (hp : 0 < xs.length) : ∃ s, A = some ⟨s, 0, none⟩ ∧ Rows w base s xs := by
  obtain ⟨h0, inner, ho, hr⟩ := h
  rcases ho.2 with ⟨_, hz⟩ | ⟨g, cap, cur, hv, hb, hcell, hnc, hcm, hsz, htake⟩
  · omega
  · cases hv
    refine ⟨g, rfl, fun i hi => ?_⟩
    obtain ⟨v', hv', hR⟩ := hr.2 i xs[i] (List.getElem?_eq_getElem hi)
    have hin : inner[i]? = some v' := by
      have h1 : ((inner.drop (i * 1)).take 1)[0]? = some v' := by
        have : (Kd.slice 3 (Kd.int .i64)).sz = 1 := rfl
        rw [this] at hv'
        rw [hv']
        rfl
      simpa using h1
    have hcur : cur[i]? = some v' := by
      have h2 : (cur.toList.take (xs.length * 1))[i]? = some v' := by rw [← hin, ← htake]; rfl
      rw [List.getElem?_take] at h2
      split at h2
      · simpa using h2
      · cases h2
    obtain ⟨h1, inner2, ho2, hr2⟩ := hR
    rcases ho2.2 with ⟨rfl, hz⟩ | ⟨g2, cap2, cur2, rfl, hb2, hc2, hnc2, hcm2, hsz2, ht2⟩
    · refine ⟨none, 0, ?_, fun hp => by omega⟩
      rw [blk_cell hcell, hcur, hz]
    · refine ⟨some ⟨g2, 0, none⟩, cap2, by rw [blk_cell hcell, hcur], fun _ => ⟨g2, cur2, 3, rfl, hb2, ?_, hc2, ?_⟩⟩
      · have := (h1 g2 rfl).2
        intro e
        subst e
        exact this rfl
      · have : (Kd.int .i64).sz = 1 := rfl
        rw [this] at hsz2
        omega
theorem rows_set {w : World} {base s b k : Nat} {xs : List (List Int)} {cells : Array Value} {t : TypeId} (h : Rows w base s xs) (hb : w.heap[b]? = some (.cells cells t (0, 0))) (hne : b ≠ s) (u : Value) : Rows (w.setCell ⟨b, k, none⟩ u) base s xs := by
  intro i hi
  obtain ⟨A, c, hc, hr⟩ := h i hi
  refine ⟨A, c, ?_, fun hp => ?_⟩
  · rw [World.cell?_of_block (Below.heap_setCell w ⟨b, k, none⟩ u s (by show s ≠ b; omega))]
    exact hc
  · obtain ⟨b', cells', t', hA, h1, h2, h3, h4⟩ := hr hp
    by_cases e : b' = b
    · subst e
      rw [hb] at h3
      injection h3 with h3
      injection h3 with h3 h3'
      subst h3 h3'
      exact ⟨b', _, _, hA, h1, h2, blk_set hb k u, by rw [Array.size_setIfInBounds]; exact h4⟩
    · exact ⟨b', cells', t', hA, h1, h2, blk_far h3 e u, h4⟩
theorem rows_drew {w : World} {base s : Nat} {xs : List (List Int)} (h : Rows w base s xs) (n : Nat) : Rows (w.drewN n) base s xs := h
set_option maxHeartbeats 16000000 in
set_option maxRecDepth 100000 in
theorem law_sets (w : World) (hg : HandleAt w) (l : List Int) (A : Option Addr) (c : Nat) (hC : Kd.C (Kd.int .i64) w A l.length l) (hc : l.length ≤ c) :
    Calls Tryd.prog 3 #[.slice A l.length c] w fun e w' => e = .returned (.bool true) ∧ Below w.heap.size w w' := by
  have HC := Aside0.mk hC
  clear hC
  by_cases hl : l.length > 200
  · have hl' : (l.length : Int) > 200 := by omega
    go_enter Tryd.func3, Tryd.ntmps3
    go_wp2_with (go_at_call 6; refine (awake_at w hg).mono ?_; rintro e w0 ⟨rfl, hb0⟩)
    go_ret
    exact ⟨rfl, hb0⟩
  · have hl1 : l.length ≤ 200 := by omega
    have hl' : ¬ (l.length : Int) > 200 := by omega
    obtain ⟨k7, e7⟩ := Ev.rounds (PQ.roll_ev hl1)
    obtain ⟨k10, e10⟩ := Ev.rounds (PQ.refRoll_ev hl1)
    obtain ⟨k9, e9⟩ := Ev.rounds (PQ.sets_ev (PQ.rollS_small hl1 l.length hl1))
    obtain ⟨k9b, e9b⟩ := Ev.rounds (PQ.sets_ev (PQ.cubeR_small l))
    have hrl := PQ.rollS_length l l.length
    have hsm := PQ.rollS_small hl1 l.length hl1
    have e8 := (PQ.cube_is l).1
    have e11 := (PQ.cube_is l).2
    generalize hr : PQ.rollS l l.length = r at *
    generalize hr2 : PQ.cubeR l = r2 at *
    have HR1 := Aside0.mk hr
    have HR2 := Aside0.mk hr2
    clear hr hr2
    have HRL := Aside0.mk hrl
    have HSM := Aside0.mk hsm
    clear hrl hsm
    have E7 := Aside0.mk e7
    have E8 := Aside0.mk e8
    have E11 := Aside0.mk e11
    have E10 := Aside0.mk e10
    have E9 := Aside0.mk e9
    have E9b := Aside0.mk e9b
    clear e7 e10 e9 e9b e8 e11
    go_enter Tryd.func3, Tryd.ntmps3
    go_wp2_with fail
    refine (awake_at w hg).mono ?_
    rintro e w0 ⟨rfl, hb0⟩
    have HB0 := Aside0.mk hb0
    clear hb0
    go_wp2_with ((with_reducible refine gate_builtin (b := .append) (xs := #[.tmp 16, .tmp 17]) rfl ?_); at_builtin; refine Kd.R_append_row (Value.int .i64) 0 (w0 := w) w.heap.size rfl (.tmp 16) (.tmp 17) 22 3 (.int .i64 0) 8 rfl Tryd.underlying22 c_info3 rfl (by decide) (.slice none 0 0) ([] : List Int) l _ _ _ (fun _ => True) rfl rfl (fun _ _ => trivial) (Kd.R_nil _ _ _ _ _) (Kd.C_below HC.out HB0.out) HB0.out HB0.out.size (by simp; omega) ?_; intro v4 w1 ho hb hg_ hat; rw [List.nil_append] at ho; obtain ⟨A4, c4, rfl⟩ := Kd.R_slice ho; have HO1 := Aside0.mk ho; have HB1 := Aside0.mk hb; clear ho hb hg_ hat HB0)
    refine (PQ.query_Rollup.calls k7 A c l r w1 (Kd.C_below HC.out HB1.out) hc E7.out).mono ?_
    rintro e w2 ⟨v5, rfl, hs5, hb2⟩
    obtain ⟨A5, c5, rfl⟩ := Kd.R_slice (Kd.S_R hs5)
    have HS5 := Aside0.mk (Kd.S_R hs5)
    have HB2 := Aside0.mk hb2
    clear hs5 hb2
    go_wp2_with fail
    refine (PQ.query_Cube.calls 1000 A c l r2 w2 (Kd.C_below HC.out (below_step HB1.out HB2.out)) hc E8.out).mono ?_
    rintro e w3 ⟨v6, rfl, hs6, hb3⟩
    obtain ⟨A6, c6, rfl⟩ := Kd.R_slice (Kd.S_R hs6)
    have HS6 := Aside0.mk (Kd.S_R hs6)
    have HB3 := Aside0.mk (below_step HB2.out hb3)
    have HS5' := Aside0.mk (Kd.R_below HS5.out hb3)
    clear hs6 hb3 HS5
    go_wp2_with fail
    refine (PQ.gristmillref08_Rollup.calls k10 (fun _ => True) A4 c4 l r w3 (Kd.R_V (Kd.R_below HO1.out HB3.out)) E10.out).mono ?_
    rintro e w4 ⟨v7, rfl, hn, hb4⟩
    obtain ⟨A7, c7, rfl, hc7, _⟩ := Kd.N_V (base' := 0) hn
    have HN7 := Aside0.mk hn
    have HB4 := Aside0.mk (below_step HB3.out hb4)
    have HS5 := Aside0.mk (Kd.R_below HS5'.out hb4)
    have HS6' := Aside0.mk (Kd.R_below HS6.out hb4)
    clear hn hb4 HS5' HS6
    go_wp2_with fail
    refine (PQ.gristmillref08_Sets.calls k9 A5 c5 r A7 c7 r true w4 (Kd.R_reads' HS5.out).2.2 (Kd.R_reads' HS5.out).2.1 (Kd.N_reads' HN7.out).2.2 hc7 E9.out).mono ?_
    rintro e w5 ⟨rfl, hd⟩
    have hb5 := hd.below
    have HB5 := Aside0.mk (below_step HB4.out hb5)
    have HS5' := Aside0.mk (Kd.R_below HS5.out hb5)
    have HS6 := Aside0.mk (Kd.R_below HS6'.out hb5)
    clear hd hb5 HS5 HS6' HN7
    go_wp2_with fail
    refine (PQ.gristmillref08_Cube.calls 1000 A4 c4 l r2 w5 (Kd.R_reads' (Kd.R_below HO1.out HB5.out)).2.2 (Kd.R_reads' HO1.out).2.1 E11.out).mono ?_
    rintro e w6 ⟨v8, rfl, hn, hb6⟩
    obtain ⟨A8, c8, rfl, hc8, _⟩ := Kd.N_V (base' := 0) hn
    have HN8 := Aside0.mk hn
    have HB6 := Aside0.mk (below_step HB5.out hb6)
    have HS5 := Aside0.mk (Kd.R_below HS5'.out hb6)
    have HS6' := Aside0.mk (Kd.R_below HS6.out hb6)
    clear hn hb6 HS5' HS6
    go_wp2_with fail
    refine (PQ.gristmillref08_Sets.calls k9b A6 c6 r2 A8 c8 r2 true w6 (Kd.R_reads' HS6'.out).2.2 (Kd.R_reads' HS6'.out).2.1 (Kd.N_reads' HN8.out).2.2 hc8 E9b.out).mono ?_
    rintro e w7 ⟨rfl, hd⟩
    have hb7 := hd.below
    have HB7 := Aside0.mk (below_step HB6.out hb7)
    obtain ⟨s, rfl, hrows⟩ := rows_of_R (Kd.R_below HS5.out hb7) (by rw [HRL.out]; omega)
    have HR := Aside0.mk hrows
    clear hd hb7 HS5 HS6' HN8 hrows E7 E10 E9 E9b
    go_wp2
    go_loopg [7] r.length (fun kq v7 w' => ∃ i : Nat, v7 = .int .i64 i ∧ i + kq = r.length ∧ Aside0 (Rows w' w1.heap.size s r) ∧ Aside0 (Below w1.heap.size w1 w'))
    case atStart => exact ⟨0, rfl, by omega, HR, HB7⟩
    case round =>
      obtain ⟨i, rfl, hi, HRW, HBW⟩ := hrel
      obtain ⟨g1, hg1⟩ : ∃ g1, g1 = gk := ⟨_, rfl⟩
      rcases Nat.lt_or_ge i r.length with hlt | hge
      · obtain ⟨Ai, ci, hcell, hok⟩ := HRW.out i hlt
        go_wp2
        go_loopg [8] r[i].length (fun kq v8 w' => ∃ k : Nat, v8 = .int .i64 k ∧ k + kq = r[i].length ∧ Aside0 (Rows w' w1.heap.size s r) ∧ Aside0 (Below w1.heap.size w1 w'))
        case atStart => exact ⟨0, rfl, by omega, HRW, HBW⟩
        case round =>
          obtain ⟨k, rfl, hk, HRW2, HBW2⟩ := hrel
          obtain ⟨Ak, ck, hcell2, hok2⟩ := HRW2.out i hlt
          rcases Nat.lt_or_ge k r[i].length with hlt2 | hge2
          · obtain ⟨b, cells, t, rfl, hb0, hbs, hblk, hsz⟩ := hok2 (by omega)
            have hold : wr.cell? ⟨b, k, none⟩ = some cells[k] := (blk_cell hblk k).trans (Array.getElem?_eq_getElem (by omega))
            have hfz : wr.frozen? ⟨b, k, none⟩ = false := blk_frozen hblk k
            have HR3 := Aside0.mk (rows_set (k := k) HRW2.out hblk hbs (.int .i64 (-7)))
            have HB3 := Aside0.mk (below_set (j := k) (v := .int .i64 (-7)) HBW2.out hb0)
            clear hblk
            have hs1 := HSM.out.2 _ (List.getElem_mem hlt)
            go_wp2
            go_roundg (gk - 1)
            case measure => omega
            case rel => exact ⟨k + 1, by go_num, by omega, HR3, HB3⟩
          · have n1 : ¬ (k : Int) < (r[i].length : Int) := by omega
            have hs1 := HSM.out.1
            go_wp2
            go_roundg (g1 - 1)
            case measure => omega
            case rel => exact ⟨i + 1, by go_num, by omega, HRW2, HBW2⟩
      · have n1 : ¬ (i : Int) < (r.length : Int) := by omega
        go_wp2
        go_loopg [9] l.length (fun kq v9 w' => ∃ i : Nat, v9 = .int .i64 i ∧ i + kq = l.length ∧ Aside0 (Below w1.heap.size w1 w'))
        case atStart => exact ⟨0, rfl, by omega, HBW⟩
        case round =>
          obtain ⟨j, rfl, hj, HBL⟩ := hrel
          rcases Nat.lt_or_ge j l.length with hlt | hge2
          · obtain ⟨ad, rfl, hd⟩ := int_at (Kd.C_below HC.out (below_step HB1.out HBL.out)) hlt
            obtain ⟨ad4, rfl, hd4⟩ := int_at (Kd.R_reads' (Kd.R_below HO1.out HBL.out)).2.2 hlt
            go_wp2
            go_quiet (fail)
            go_wp2
            go_roundg (gk - 1)
            case measure => omega
            case rel => exact ⟨j + 1, by go_num, by omega, ⟨pw_below_drewN HBL.out _⟩⟩
          · have n1 : ¬ (j : Int) < (l.length : Int) := by omega
            have hrl := HRL.out
            by_cases h6 : l.length ≤ 6
            · have h2 : r2.length = 2 ^ l.length := by
                rw [← HR2.out]
                unfold PQ.cubeR
                rw [if_pos h6, PQ.cubeS_length]
              have h7 : l.length = 0 ∨ l.length = 1 ∨ l.length = 2 ∨ l.length = 3 ∨ l.length = 4 ∨ l.length = 5 ∨ l.length = 6 := by omega
              rcases h7 with h7 | h7 | h7 | h7 | h7 | h7 | h7
              all_goals
                rw [h7] at h2
                simp only [Nat.reducePow] at h2
                go_wp2
                go_ret
                exact ⟨rfl, below_step HB1.out HBL.out⟩
            · have h6' : (l.length : Int) > 6 := by omega
              go_wp2
              go_ret
              exact ⟨rfl, below_step HB1.out HBL.out⟩
end Go.Proofs.YteleaflneejipaaDoor
