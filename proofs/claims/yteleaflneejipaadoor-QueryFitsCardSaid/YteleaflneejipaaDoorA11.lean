/- The law QueryFits walked. -/
import Derived.Test.YteleaflneejipaaDoorA7
import Derived.Test.YteleaflneejipaaDoorA10
import Derived.Deep.QuietTactic
import Derived.BigQuiet
import Derived.Deep.CutBlock
import Derived.Deep.DeepCutAuto
namespace Go.Proofs.YteleaflneejipaaDoor
open Go.RowKit Go.Proofs.YteleaflneejipaaDoorW.PrintWords Go.Proofs.YteleaflneejipaaDoorW.PrintLast Go.Proofs.YteleaflneejipaaDoorW.PrintMore
set_option linter.unusedVariables false

def BoolsAt (w : World) (A : Option Addr) (ps : List Bool) : Prop := ∀ (i : Nat) (h : i < ps.length), ∃ ad, A = some ad ∧ ad.block < w.heap.size ∧ w.cell? (ad.add i) = some (.bool ps[i])
theorem one_int {w : World} {b : Nat} {x : Int} (h : w.cell? ⟨b, 0, none⟩ = some (.int .i64 x)) : Kd.C (Kd.int .i64) w (some ⟨b, 0, none⟩) 1 [x] := by
  refine ⟨rfl, by decide, fun _ => ⟨_, rfl, fun j p hj => ?_⟩⟩
  rcases j with _ | j
  · obtain rfl : x = p := by simpa using hj
    refine ⟨[.int .i64 x], rfl, rfl, fun i u hi => ?_⟩
    rcases i with _ | i
    · obtain rfl := Option.some.inj hi
      exact h
    · simp at hi
  · simp at hj
theorem types_sets : ∀ q, q ∈ 22 :: (Kd.slice 3 (Kd.int .i64)).E → q ≠ 40 := fun q hq e => by
  subst e
  have : (40 : Nat) ∈ [22, 3] := hq
  simp at this
theorem types_ints : ∀ q, q ∈ 3 :: (Kd.int .i64).E → q ≠ 40 := fun q hq e => by
  subst e
  have : (40 : Nat) ∈ [3] := hq
  simp at this
theorem add_none (ad : Addr) : ad.add 0 = ad := by
  unfold Addr.add
  split <;> simp_all
theorem row_one {w : World} {ad : Addr} {A1 : Option Addr} {c1 : Nat} {x : List Int} (h : w.cell? ad = some (.slice A1 x.length c1)) (hc : x.length ≤ c1) (hC : Kd.C (Kd.int .i64) w A1 x.length x) : Kd.C (Kd.slice 3 (Kd.int .i64)) w (some ad) ([x] : List (List Int)).length [x] := by
  refine ⟨rfl, by simp, fun _ => ⟨_, rfl, fun j p hj => ?_⟩⟩
  rcases j with _ | j
  · obtain rfl : x = p := by simpa using hj
    refine ⟨[.slice A1 x.length c1], rfl, ⟨A1, c1, rfl, hc, hC⟩, fun i u hi => ?_⟩
    rcases i with _ | i
    · obtain rfl := Option.some.inj hi
      have e : ad.add (0 * (Kd.slice 3 (Kd.int .i64)).sz + 0) = ad := add_none ad
      rw [e]
      exact h
    · simp at hi
  · simp at hj
theorem wrap_small {n : Int} (h0 : 0 ≤ n) (h1 : n ≤ 1000000) : IntKind.i64.wrap n = n := by
  simp [IntKind.wrap, IntKind.bits, IntKind.signed]
  omega
theorem sets_quiet {w : World} {A : Option Addr} {n : Nat} {xs : List (List Int)} (h : Kd.C (Kd.slice 3 (Kd.int .i64)) w A n xs) (hs : PQ.Small xs) {B : Option Addr} {m : Nat} {ys : List (List Int)} (h' : Kd.C (Kd.slice 3 (Kd.int .i64)) w B m ys) {i k : Nat} (hi : i < xs.length) (hk : k < ys.length) (ci ck : Nat) (hci : 1 ≤ ci) (hck : 1 ≤ ck) :
    ∃ ad bd, A = some ad ∧ B = some bd ∧ ∀ q, Calls Tryd.prog 9 #[.slice (some (ad.add i)) 1 ci, .slice (some (bd.add k)) 1 ck] (w.drewN q) fun e w' => e = .returned (.bool (decide (xs[i] = ys[k]))) ∧ ∃ z, w' = (w.drewN q).drewN z := by
  have hn := h.1
  have hm := h'.1
  obtain ⟨ad, A1, c1, rfl, e1, e2, e3⟩ := PQ.at_L1 h (i : Int) (by omega) (by omega)
  obtain ⟨bd, B1, d1, rfl, f1, f2, f3⟩ := PQ.at_L1 h' (k : Int) (by omega) (by omega)
  rw [PQ.rdL1_is hi] at e1 e2 e3
  rw [PQ.rdL1_is hk] at f1 f2 f3
  rw [Int.toNat_natCast] at e1 f1
  obtain ⟨z, hz⟩ := Ev.rounds (PQ.one_ev xs[i] ys[k] (hs.2 _ (List.getElem_mem hi)))
  refine ⟨ad, bd, rfl, rfl, fun q => ?_⟩
  exact (PQ.gristmillref08_Sets.calls z (some (ad.add i)) ci [xs[i]] (some (bd.add k)) ck [ys[k]] _ (w.drewN q) (row_one e1 e2 e3) hci (row_one f1 f2 f3) hck hz).mono fun e w' ⟨he, hd⟩ => ⟨he, hd.out⟩
theorem bools_at {w w1 : World} {A : Option Addr} {ps : List Bool} (h : BoolsAt w A ps) (hb : Below w.heap.size w w1) {i : Nat} (hi : i < ps.length) : ∃ ad, A = some ad ∧ w1.cell? (ad.add i) = some (.bool ps[i]) := by
  obtain ⟨ad, e, hl, hc⟩ := h i hi
  refine ⟨ad, e, (hb.cell ?_).trans hc⟩
  unfold Addr.add
  split <;> exact hl
set_option maxHeartbeats 16000000 in
set_option maxRecDepth 100000 in
theorem law_fits (w : World) (hg : HandleAt w) (ps : List Bool) (A : Option Addr) (c : Nat) (hP : BoolsAt w A ps) (hc : ps.length ≤ c) :
    Calls Tryd.prog 4 #[.slice A ps.length c] w fun e w' => e = .returned (.bool true) ∧ Below w.heap.size w w' := by
  have HP := Aside0.mk hP
  clear hP
  go_enter Tryd.func4, Tryd.ntmps4
  go_wp2_with fail
  refine (awake_at w hg).mono ?_
  rintro e w0 ⟨rfl, hb0⟩
  have HB0 := Aside0.mk hb0
  clear hb0
  go_upto_block 0 with (fail)
  go_cut [4] (fun v4 wc => ∃ (ds : List Int) (A4 : Option Addr) (c4 : Nat), v4 = .slice A4 ds.length c4 ∧ Aside0 (PQ.Up 8 ds) ∧ Aside0 (ds.length ≤ 6) ∧ Aside0 (Kd.R (Kd.int .i64) 3 wc w.heap.size (fun _ => True) (.slice A4 ds.length c4) ds) ∧ Aside0 (Below w.heap.size w wc))
  case first =>
    go_wp2
    go_loopg [4, 5] 8 (fun kq v4 v5 w' => ∃ (ds : List Int) (i : Nat) (A4 : Option Addr) (c4 : Nat), v5 = .int .i64 i ∧ v4 = .slice A4 ds.length c4 ∧ i + kq = 8 ∧ Aside0 (PQ.Up i ds) ∧ Aside0 (ds.length ≤ 6) ∧ Aside0 (Kd.R (Kd.int .i64) 3 w' w.heap.size (fun _ => True) (.slice A4 ds.length c4) ds) ∧ Aside0 (Below w.heap.size w w'))
    case atStart => exact ⟨[], 0, none, 0, rfl, rfl, rfl, ⟨List.Pairwise.nil, fun x hx => by cases hx⟩, ⟨by simp⟩, ⟨Kd.R_nil _ _ _ _ _⟩, HB0⟩
    case round =>
      obtain ⟨ds, i, A4, c4, rfl, rfl, hi, HU, HL, HO, HB⟩ := hrel
      by_cases h1 : i < ps.length
      · by_cases h2 : i < 8
        · by_cases h3 : ds.length < 6
          · obtain ⟨ad, rfl, hcell⟩ := bools_at HP.out HB.out h1
            have h3' : (ds.length : Int) < 6 := by omega
            have HH1 := Aside0.mk h1
            cases hv : ps[i] with
            | true =>
              rw [hv] at hcell
              go_wp2_with ((with_reducible refine gate_builtin (b := .append) (xs := #[.tmp 38, .tmp 40]) rfl ?_); at_builtin; refine Kd.R_append_row (Value.int .i64) 0 (w0 := w) w.heap.size rfl (.tmp 38) (.tmp 40) 22 3 (.int .i64 0) 8 rfl Tryd.underlying22 c_info3 rfl (by decide) (.slice A4 ds.length c4) ds [(i : Int)] _ _ _ (fun _ => True) rfl rfl (fun _ _ => trivial) (Kd.R_alloc HO.out _) (one_int ((blk_cell (blk_new _ _) 0).trans rfl)) (below_alloc HB.out _) (below_alloc HB.out _).size (by have := HL.out; omega) ?_; intro v1 w1 ho hb hg_ hat; have HO1 := Aside0.mk ho; have HB1 := Aside0.mk hb; clear ho hb hg_ hat)
              obtain ⟨A5, c5, rfl⟩ := Kd.R_slice HO1.out
              go_roundg (gk - 1)
              case measure => omega
              case rel => exact ⟨ds ++ [(i : Int)], i + 1, A5, c5, by go_num, rfl, by omega, ⟨by have := HU.out.snoc (by omega); exact this⟩, ⟨by rw [List.length_append, List.length_singleton]; omega⟩, HO1, HB1⟩
            | false =>
              rw [hv] at hcell
              go_wp2
              go_roundg (gk - 1)
              case measure => omega
              case rel => exact ⟨ds, i + 1, A4, c4, by go_num, rfl, by omega, ⟨HU.out.more⟩, HL, HO, HB⟩
          · have h3' : ¬ (ds.length : Int) < 6 := by omega
            go_wp2
            go_meet
            case rel => exact ⟨ds, A4, c4, rfl, ⟨⟨HU.out.1, fun x hx => by have := HU.out.2 x hx; omega⟩⟩, HL, HO, HB⟩
        · have h2' : ¬ (i : Int) < 8 := by omega
          go_wp2
          go_meet
          case rel => exact ⟨ds, A4, c4, rfl, ⟨⟨HU.out.1, fun x hx => by have := HU.out.2 x hx; omega⟩⟩, HL, HO, HB⟩
      · have h1' : ¬ (i : Int) < (ps.length : Int) := by omega
        go_wp2
        go_meet
        case rel => exact ⟨ds, A4, c4, rfl, ⟨⟨HU.out.1, fun x hx => by have := HU.out.2 x hx; omega⟩⟩, HL, HO, HB⟩
  case rest =>
    obtain ⟨ds, A4, c4, rfl, HU, HL, HO, HB⟩ := hcut
    obtain ⟨k7, e7⟩ := Ev.rounds (PQ.roll_ev (l := ds) (by have := HL.out; omega))
    have e8 := (PQ.cube_is ds).1
    have hr2l : (PQ.cubeR ds).length ≤ 64 ∧ 1 ≤ (PQ.cubeR ds).length := by
      unfold PQ.cubeR
      rw [if_pos HL.out, PQ.cubeS_length]
      exact ⟨Nat.le_trans (Nat.pow_le_pow_right (by decide) HL.out) (by decide), Nat.one_le_two_pow⟩
    have hrl := PQ.rollS_length ds ds.length
    have hfr : SetsFit 8 (PQ.rollS ds ds.length) := fun l hl => by
      have hs := PQ.rollS_sub _ _ _ hl
      exact ⟨by have := hs.length_le; have := HL.out; omega, (HU.out.sub hs).rises⟩
    have hfc : SetsFit 8 (PQ.cubeR ds) := fun l hl => by
      unfold PQ.cubeR at hl
      rw [if_pos HL.out] at hl
      have hs := PQ.cubeS_sub _ _ hl
      exact ⟨by have := hs.length_le; have := HL.out; omega, (HU.out.sub hs).rises⟩
    have hcnt : PQ.cntC (PQ.cubeR ds) (PQ.rollS ds ds.length) = (PQ.rollS ds ds.length).length := by
      unfold PQ.cubeR
      rw [if_pos HL.out]
      exact PQ.cnt_all (PQ.cube_nodup HU.out.1) _ (fun y hy => PQ.roll_cube _ _ _ hy)
    have hnd : (PQ.cubeR ds).Nodup := by
      unfold PQ.cubeR
      rw [if_pos HL.out]
      exact PQ.cube_nodup HU.out.1
    have hsm := PQ.cubeR_small ds
    generalize PQ.rollS ds ds.length = r at *
    generalize PQ.cubeR ds = r2 at *
    have E7 := Aside0.mk e7
    have E8 := Aside0.mk e8
    have HRL := Aside0.mk hrl
    have HR2 := Aside0.mk hr2l
    have HFR := Aside0.mk hfr
    have HFC := Aside0.mk hfc
    have HCN := Aside0.mk hcnt
    have HND := Aside0.mk hnd
    have HSM := Aside0.mk hsm
    clear e7 e8 hrl hr2l hfr hfc hcnt hnd hsm
    go_wp2_with fail
    refine (PQ.query_Rollup.calls k7 A4 c4 ds r _ (Kd.R_reads' (Kd.R_alloc HO.out _)).2.2 (Kd.R_reads' HO.out).2.1 E7.out).mono ?_
    rintro e w2 ⟨v5, rfl, hs5, hb2⟩
    obtain ⟨A5, c5, rfl⟩ := Kd.R_slice (Kd.S_R hs5)
    have HB2 := Aside0.mk (below_step (below_alloc HB.out _) hb2)
    have HS2 := Aside0.mk (blk_below (blk_new wc (.cells #[.int .i64 8, .int .i64 0] 31)) hb2)
    have HO2 := Aside0.mk (Kd.R_below (Kd.R_alloc HO.out _) hb2)
    have HC5 := Aside0.mk (Kd.R_reads' (Kd.S_R hs5)).2
    have hslt : wc.heap.size < w2.heap.size := blk_lt HS2.out
    have s0 : (w2.alloc (.cells (qCells (.slice A5 r.length c5)) 40)).cell? ⟨wc.heap.size, 0, none⟩ = some (.int .i64 8) := (blk_cell (blk_alloc HS2.out _) 0).trans rfl
    have s1 : (w2.alloc (.cells (qCells (.slice A5 r.length c5)) 40)).cell? ⟨wc.heap.size, 1, none⟩ = some (.int .i64 0) := (blk_cell (blk_alloc HS2.out _) 1).trans rfl
    unfold qCells at s0 s1
    have HwcB := HB
    clear hb2 hs5 HO HB
    go_wp2_with fail
    refine (check_ok 8 0 r A5 c5 (w2.alloc (.cells (qCells (.slice A5 r.length c5)) 40)) (by decide) (by decide) (Kd.C_below HC5.out.2 (below_alloc (Below.refl _ _) _)) HC5.out.1 (by have := HRL.out; have := HL.out; omega) HFR.out).mono ?_
    rintro e w4 ⟨rfl, hb4⟩
    have HB4 := Aside0.mk (below_step (below_alloc HB2.out _) hb4)
    have HS4 := Aside0.mk (blk_below (blk_alloc HS2.out (.cells (qCells (.slice A5 r.length c5)) 40)) hb4)
    have HQ4 := Aside0.mk (blk_below (blk_new w2 (.cells (qCells (.slice A5 r.length c5)) 40)) hb4)
    have HO4 := Aside0.mk (Kd.R_below (Kd.R_alloc HO2.out (.cells (qCells (.slice A5 r.length c5)) 40)) hb4)
    clear s0 s1 hb4 HC5 HS2 HO2 HB2
    go_wp2_with fail
    refine (PQ.query_Cube.calls 1000 A4 c4 ds r2 w4 (Kd.R_reads' HO4.out).2.2 (Kd.R_reads' HO4.out).2.1 E8.out).mono ?_
    rintro e w5 ⟨v6, rfl, hs6, hb5⟩
    obtain ⟨A6, c6, rfl⟩ := Kd.R_slice (Kd.S_R hs6)
    have HB5 := Aside0.mk (below_step HB4.out hb5)
    have HS5 := Aside0.mk (blk_below HS4.out hb5)
    have HQ5 := Aside0.mk (blk_below HQ4.out hb5)
    have HO5 := Aside0.mk (Kd.R_below HO4.out hb5)
    have HS6 := Aside0.mk (Kd.S_R hs6)
    have hq5 : w5.cell? ⟨w2.heap.size, 9, none⟩ = some (.slice A5 r.length c5) := (blk_cell HQ5.out 9).trans rfl
    have hf5 : w5.frozen? ⟨w2.heap.size, 9, none⟩ = false := blk_frozen HQ5.out 9
    have HQV : (w5.setCell ⟨w2.heap.size, 9, none⟩ (.slice A6 r2.length c6)).heap[w2.heap.size]? = some (.cells (qCells (.slice A6 r2.length c6)) 40 (0, 0)) := blk_put HQ5.out 9 _ rfl
    have HSV : (w5.setCell ⟨w2.heap.size, 9, none⟩ (.slice A6 r2.length c6)).heap[wc.heap.size]? = some (.cells #[.int .i64 8, .int .i64 0] 31 (0, 0)) := blk_far HS5.out (by show wc.heap.size ≠ w2.heap.size; omega) _
    have s0 : (w5.setCell ⟨w2.heap.size, 9, none⟩ (.slice A6 r2.length c6)).cell? ⟨wc.heap.size, 0, none⟩ = some (.int .i64 8) := (blk_cell HSV 0).trans rfl
    have s1 : (w5.setCell ⟨w2.heap.size, 9, none⟩ (.slice A6 r2.length c6)).cell? ⟨wc.heap.size, 1, none⟩ = some (.int .i64 0) := (blk_cell HSV 1).trans rfl
    have y0 : (w5.setCell ⟨w2.heap.size, 9, none⟩ (.slice A6 r2.length c6)).cell? ⟨w2.heap.size, 0, none⟩ = some (.int .i64 0) := (blk_cell HQV 0).trans rfl
    have y1 : (w5.setCell ⟨w2.heap.size, 9, none⟩ (.slice A6 r2.length c6)).cell? ⟨w2.heap.size, 1, none⟩ = some (.int .i64 0) := (blk_cell HQV 1).trans rfl
    have y2 : (w5.setCell ⟨w2.heap.size, 9, none⟩ (.slice A6 r2.length c6)).cell? ⟨w2.heap.size, 2, none⟩ = some (.int .i64 1) := (blk_cell HQV 2).trans rfl
    have y3 : (w5.setCell ⟨w2.heap.size, 9, none⟩ (.slice A6 r2.length c6)).cell? ⟨w2.heap.size, 3, none⟩ = some (.int .i64 0) := (blk_cell HQV 3).trans rfl
    have y4 : (w5.setCell ⟨w2.heap.size, 9, none⟩ (.slice A6 r2.length c6)).cell? ⟨w2.heap.size, 4, none⟩ = some (.slice none 0 0) := (blk_cell HQV 4).trans rfl
    have y5 : (w5.setCell ⟨w2.heap.size, 9, none⟩ (.slice A6 r2.length c6)).cell? ⟨w2.heap.size, 5, none⟩ = some (.int .i64 0) := (blk_cell HQV 5).trans rfl
    have y6 : (w5.setCell ⟨w2.heap.size, 9, none⟩ (.slice A6 r2.length c6)).cell? ⟨w2.heap.size, 6, none⟩ = some (.int .i64 0) := (blk_cell HQV 6).trans rfl
    have y7 : (w5.setCell ⟨w2.heap.size, 9, none⟩ (.slice A6 r2.length c6)).cell? ⟨w2.heap.size, 7, none⟩ = some (.slice none 0 0) := (blk_cell HQV 7).trans rfl
    have y8 : (w5.setCell ⟨w2.heap.size, 9, none⟩ (.slice A6 r2.length c6)).cell? ⟨w2.heap.size, 8, none⟩ = some (.int .i64 0) := (blk_cell HQV 8).trans rfl
    have y9 : (w5.setCell ⟨w2.heap.size, 9, none⟩ (.slice A6 r2.length c6)).cell? ⟨w2.heap.size, 9, none⟩ = some (.slice A6 r2.length c6) := (blk_cell HQV 9).trans rfl
    have y10 : (w5.setCell ⟨w2.heap.size, 9, none⟩ (.slice A6 r2.length c6)).cell? ⟨w2.heap.size, 10, none⟩ = some (.slice none 0 0) := (blk_cell HQV 10).trans rfl
    have y11 : (w5.setCell ⟨w2.heap.size, 9, none⟩ (.slice A6 r2.length c6)).cell? ⟨w2.heap.size, 11, none⟩ = some (.int .i64 1) := (blk_cell HQV 11).trans rfl
    have y12 : (w5.setCell ⟨w2.heap.size, 9, none⟩ (.slice A6 r2.length c6)).cell? ⟨w2.heap.size, 12, none⟩ = some (.int .i64 0) := (blk_cell HQV 12).trans rfl
    have HBV := Aside0.mk (show Below w.heap.size w (w5.setCell ⟨w2.heap.size, 9, none⟩ (.slice A6 r2.length c6)) from below_set HB5.out (Nat.le_of_lt (Nat.lt_of_le_of_lt HwcB.out.size hslt)))
    have hC6 := (Kd.R_reads' HS6.out).2
    have HC6 := Aside0.mk (show Kd.C (Kd.slice 3 (Kd.int .i64)) (w5.setCell ⟨w2.heap.size, 9, none⟩ (.slice A6 r2.length c6)) A6 r2.length r2 from (Kd.R_reads' (Kd.R_set HS6.out HQ5.out types_sets 9 _)).2.2)
    have HOV := Aside0.mk (show Kd.R (Kd.int .i64) 3 (w5.setCell ⟨w2.heap.size, 9, none⟩ (.slice A6 r2.length c6)) w.heap.size (fun _ => True) (.slice A4 ds.length c4) ds from Kd.R_set HO5.out HQ5.out types_ints 9 _)
    have HQV' := Aside0.mk HQV
    clear HQV HSV HS5 HQ5 HO5 HB5 HS4 HQ4 HO4 HB4
    go_wp2_with fail
    refine (check_ok 8 0 r2 A6 c6 (w5.setCell ⟨w2.heap.size, 9, none⟩ (.slice A6 r2.length c6)) (by decide) (by decide) HC6.out hC6.1 (by have := HR2.out; omega) HFC.out).mono ?_
    rintro e w7 ⟨rfl, hb7⟩
    have HB7 := Aside0.mk (below_step HBV.out hb7)
    have HQ7 := Aside0.mk (blk_below HQV'.out hb7)
    have HO7 := Aside0.mk (Kd.R_below HOV.out hb7)
    have HC7 := Aside0.mk (Kd.C_below HC6.out hb7)
    clear y0 y1 y2 y3 y4 y5 y6 y7 y8 y9 y10 y11 y12 s0 s1 hq5 hf5 hb7 HBV HQV' HOV HC6
    go_wp2_with fail
    refine (PQ.query_Rollup.calls k7 A4 c4 ds r w7 (Kd.R_reads' HO7.out).2.2 (Kd.R_reads' HO7.out).2.1 E7.out).mono ?_
    rintro e w8 ⟨v10, rfl, hs10, hb8⟩
    obtain ⟨A10, c10, rfl⟩ := Kd.R_slice (Kd.S_R hs10)
    have HB8 := Aside0.mk (below_step HB7.out hb8)
    have HQ8 := Aside0.mk (blk_below HQ7.out hb8)
    have HC8 := Aside0.mk (Kd.C_below HC7.out hb8)
    have HC10 := Aside0.mk (Kd.R_reads' (Kd.S_R hs10)).2.2
    have hc10 := (Kd.R_reads' (Kd.S_R hs10)).2.1
    clear hs10 hb8 HB7 HQ7 HC7 HO7
    go_wp2
    have hc8 := hC6.1
    clear hC6
    go_loopg [11, 12] r2.length (fun kq v11 v12 w' => ∃ i : Nat, v12 = .int .i64 i ∧ v11 = .int .i64 (PQ.cntC (r2.take i) r : Nat) ∧ i + kq = r2.length ∧ Aside0 (Below w8.heap.size w8 w'))
    case atStart => exact ⟨0, rfl, rfl, by omega, ⟨Below.refl _ _⟩⟩
    case round =>
      obtain ⟨i, rfl, rfl, hi, HW⟩ := hrel
      obtain ⟨g1, hg1⟩ : ∃ g1, g1 = gk := ⟨_, rfl⟩
      have hq9 : wr.cell? ⟨w2.heap.size, 9, none⟩ = some (.slice A6 r2.length c6) := (blk_cell (blk_below HQ8.out HW.out) 9).trans rfl
      have hsz := HR2.out.1
      rcases Nat.lt_or_ge i r2.length with hlt | hge
      · go_wp2
        go_loopg [13] i (fun kq v13 w' => ∃ k : Nat, v13 = .int .i64 k ∧ k + kq = i ∧ Aside0 (Below w8.heap.size w8 w'))
        case atStart => exact ⟨0, rfl, by omega, HW⟩
        case round =>
          clear hq9
          obtain ⟨k, rfl, hk, HW2⟩ := hrel
          have hq9 : wr.cell? ⟨w2.heap.size, 9, none⟩ = some (.slice A6 r2.length c6) := (blk_cell (blk_below HQ8.out HW2.out) 9).trans rfl
          rcases Nat.lt_or_ge k i with hlt2 | hge2
          · obtain ⟨ad, bd, rfl, e', hqq⟩ := sets_quiet (Kd.C_below HC8.out HW2.out) HSM.out (Kd.C_below HC8.out HW2.out) hlt (show k < r2.length by omega) (c6 - i) (c6 - k) (by omega) (by omega)
            cases e'
            have hne : ¬ r2[i] = r2[k] := fun e => by
              have := List.getElem_inj (h₀ := hlt) (h₁ := show k < r2.length by omega) HND.out |>.1 e
              omega
            have hqq := fun q => (by have := hqq q; rw [decide_eq_false hne] at this; exact this)
            have HQQ := Aside0.mk hqq
            clear hqq hne
            go_wp2
            have hwi : IntKind.i64.wrap ((i : Int) + 1) = (i : Int) + 1 := wrap_small (by omega) (by omega)
            have hwk : IntKind.i64.wrap ((k : Int) + 1) = (k : Int) + 1 := wrap_small (by omega) (by omega)
            go_quiet ((go_at_call 9; exact Calls.quiet_of (HQQ.out _)))
            go_wp2
            go_roundg (gk - 1)
            case measure => omega
            case rel => exact ⟨k + 1, by go_num, by omega, ⟨pw_below_drewN HW2.out _⟩⟩
          · have n1 : ¬ (k : Int) < (i : Int) := by omega
            have hr7 : r.length ≤ 7 := by have := HRL.out; have := HL.out; omega
            go_wp2
            go_loopg [11, 15] r.length (fun kq v11 v15 w' => ∃ k : Nat, v15 = .int .i64 k ∧ v11 = .int .i64 (PQ.cntC (r2.take i) r + PQ.cntR r2[i] (r.take k) : Nat) ∧ k + kq = r.length ∧ Aside0 (Below w8.heap.size w8 w'))
            case atStart => exact ⟨0, rfl, by simp [PQ.cntR], by omega, HW2⟩
            case round =>
              clear hq9
              obtain ⟨k2, rfl, rfl, hk2, HW3⟩ := hrel
              have hq9 : wr.cell? ⟨w2.heap.size, 9, none⟩ = some (.slice A6 r2.length c6) := (blk_cell (blk_below HQ8.out HW3.out) 9).trans rfl
              have hb1 : PQ.cntC (r2.take i) r ≤ 64 * 7 := Nat.le_trans (PQ.cntC_le r (r2.take i)) (Nat.mul_le_mul (by rw [List.length_take]; omega) hr7)
              have hb2 : PQ.cntR r2[i] (r.take k2) ≤ 7 := Nat.le_trans (PQ.cntR_le r2[i] (r.take k2)) (by rw [List.length_take]; omega)
              rcases Nat.lt_or_ge k2 r.length with hlt3 | hge3
              · obtain ⟨ad, bd, rfl, rfl, hqq⟩ := sets_quiet (Kd.C_below HC8.out HW3.out) HSM.out (Kd.C_below HC10.out HW3.out) hlt hlt3 (c6 - i) (c10 - k2) (by omega) (by omega)
                have HQQ := Aside0.mk hqq
                have hst : PQ.cntR r2[i] (r.take (k2 + 1)) = PQ.cntR r2[i] (r.take k2) + PQ.eqN r2[i] r[k2] := by rw [List.take_succ_eq_append_getElem hlt3, PQ.cntR_snoc]
                have HST := Aside0.mk hst
                clear hqq hst
                go_wp2
                have hwi : IntKind.i64.wrap ((i : Int) + 1) = (i : Int) + 1 := wrap_small (by omega) (by omega)
                have hwk : IntKind.i64.wrap ((k2 : Int) + 1) = (k2 : Int) + 1 := wrap_small (by omega) (by omega)
                by_cases he : r2[i] = r[k2]
                · have he1 : PQ.eqN r2[i] r[k2] = 1 := by unfold PQ.eqN; rw [if_pos he]
                  have hed : decide (r2[i] = r[k2]) = true := decide_eq_true he
                  have HE1 := Aside0.mk he1
                  have HQ2 := Aside0.mk (fun q => (by have := HQQ.out q; rw [hed] at this; exact this))
                  clear he he1 hed
                  go_quiet ((go_at_call 9; exact Calls.quiet_of (HQ2.out _)))
                  go_wp2
                  go_roundg (gk - 1)
                  case measure => omega
                  case rel => exact ⟨k2 + 1, by go_num, congrArg (Value.int .i64) (by rw [HST.out, HE1.out]; omega), by omega, ⟨pw_below_drewN HW3.out _⟩⟩
                · have he1 : PQ.eqN r2[i] r[k2] = 0 := by unfold PQ.eqN; rw [if_neg he]
                  have hed : decide (r2[i] = r[k2]) = false := decide_eq_false he
                  have HE1 := Aside0.mk he1
                  have HQ2 := Aside0.mk (fun q => (by have := HQQ.out q; rw [hed] at this; exact this))
                  clear he he1 hed
                  go_quiet ((go_at_call 9; exact Calls.quiet_of (HQ2.out _)))
                  go_wp2
                  go_roundg (gk - 1)
                  case measure => omega
                  case rel => exact ⟨k2 + 1, by go_num, congrArg (Value.int .i64) (by rw [HST.out, HE1.out]; omega), by omega, ⟨pw_below_drewN HW3.out _⟩⟩
              · have n2 : ¬ (k2 : Int) < (r.length : Int) := by omega
                have hst : PQ.cntC (r2.take (i + 1)) r = PQ.cntC (r2.take i) r + PQ.cntR r2[i] (r.take k2) := by
                  rw [List.take_succ_eq_append_getElem hlt, PQ.cntC_snoc, List.take_of_length_le hge3]
                have HST := Aside0.mk hst
                clear hst
                go_wp2
                go_roundg (g1 - 1)
                case measure => omega
                case rel => exact ⟨i + 1, by go_num, congrArg (Value.int .i64) (by rw [HST.out]; omega), by omega, HW3⟩
      · have n1 : ¬ (i : Int) < (r2.length : Int) := by omega
        have hfin : PQ.cntC (List.take i r2) r = r.length := by rw [List.take_of_length_le hge]; exact HCN.out
        go_wp2
        go_ret
        exact ⟨rfl, below_step HB8.out HW.out⟩
end Go.Proofs.YteleaflneejipaaDoor
