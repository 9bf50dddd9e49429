/- net.own by a contract: a message in new memory. No condition. -/
import Derived.Test.YtjpeaeklhcnpnaaC5b
import Derived.Laws.Rows
namespace Go.Proofs.Ytjpeaeklhcnpnaa.K
open Go.RowKit
set_option linter.unusedVariables false
set_option linter.unusedSimpArgs false
attribute [local go_sem ↓] Go.wp_at_zero Go.wp_at_succ

def OPost (x : Msg) (w : World) (e : Ending) (w' : World) : Prop := ∃ cs, e = .returned (.agg cs.toArray) ∧ kMsg.K w' (New w) x cs ∧ Below w.heap.size w w'
/-- What can be written to of what was told. -/
def Shp (x : Msg) (w : World) (F : Nat → Prop) (cs : List Value) : Prop := ∃ s g, cs[21]? = some s ∧ cs[39]? = some g ∧ setsIs w F s x.Query.Sets ∧ rowIs w F 46 g x.Segs.length
theorem Shp.move {x : Msg} {w w1 : World} {F : Nat → Prop} {cs : List Value} (hm : ∀ k, F k → k < w.heap.size → w1.heap[k]? = w.heap[k]?) (h : Shp x w F cs) : Shp x w1 F cs := by
  obtain ⟨s, g, h1, h2, h3, h4⟩ := h
  exact ⟨s, g, h1, h2, h3.move hm, h4.move hm⟩
theorem Shp.mono {x : Msg} {w : World} {F F' : Nat → Prop} {cs : List Value} (hF : ∀ k, F k → F' k) (h : Shp x w F cs) : Shp x w F' cs := by
  obtain ⟨s, g, h1, h2, h3, h4⟩ := h
  exact ⟨s, g, h1, h2, h3.mono hF, h4.mono hF⟩
def OPost2 (x : Msg) (w : World) (e : Ending) (w' : World) : Prop := ∃ cs, e = .returned (.agg cs.toArray) ∧ kMsg.K w' (New w) x cs ∧ Below w.heap.size w w' ∧ Shp x w' (New w) cs
theorem mZ_lit : mZ = #[.int .i64 0, .int .i64 0, .int .i64 0, .int .u64 0, .int .u64 0, .int .u64 0, .int .i64 0, .int .u64 0, .int .i64 0, .int .i64 0, .slice none 0 0, .slice none 0 0, .int .i64 0, .int .i64 0, .int .i64 0, .int .i64 0, .slice none 0 0, .int .i64 0, .int .i64 0, .slice none 0 0, .int .i64 0, .slice none 0 0, .slice none 0 0, .int .i64 0, .int .i64 0, .int .i64 0, .int .i64 0, .int .i64 0, .int .i64 0, .int .i64 0, .int .i64 0, .int .i64 0, .bool false, .int .i64 0, .int .i64 0, .int .i64 0, .int .i64 0, .int .i64 0, .int .i64 0, .slice none 0 0, .slice none 0 0] := rfl

theorem i54 {x : Msg} {d m t k s a g p : Value} : (Try.prog.info? 54).map (·.size) = some (mC x d m t k s a g p).size := by
  rw [mC_size]
  kernel_rfl
theorem own_there {w wc : World} {x : Msg} {d m t k s a g p d' m' t' k' s' a' g' p' : Value} (h : oBox w x wc d m t k s a g p) : wc.there (w.heap.size + 1) 0 (mC x d' m' t' k' s' a' g' p').size := fun j hj => by
  rw [mC_size] at hj
  refine ⟨?_, blk_frozen h.2.1 _⟩
  rw [blk_cell h.2.1, Array.getElem?_eq_getElem (by show 0 + j < 41; omega)]
  rfl
theorem results_cell1 {P : Program} {fn : Func} {p : Tmp} {ty : TypeId} (h : fn.results = #[.cell p ty]) {tmps : Array Value} {w : World} {a : Addr} {v : Value} (ha : tmps.getD p undef = .pointer (some a)) (hl : (loadVar ty a).run P w = .ok v w) : (results fn tmps).run P w = .ok v w := by
  have ha' : tmps[p]?.getD undef = .pointer (some a) := by simpa using ha
  simp only [results, h]
  simp [Sem.run_bind, Result.andThen, ha', asAddr, hl]
theorem own_end {w wc : World} {x : Msg} {d m t k s a g p : Value} (h : oBox w x wc d m t k s a g p) (hK : kMsg.K wc (NN w) x (mC x d m t k s a g p).toList) (hS : Shp x wc (NN w) (mC x d m t k s a g p).toList) :
    (loadVar 54 ⟨w.heap.size + 1, 0, none⟩).run Try.prog (wc.setCells (w.heap.size + 1) 0 (mC x d m t k s a g p).toList) = .ok (.agg (mC x d m t k s a g p)) (wc.setCells (w.heap.size + 1) 0 (mC x d m t k s a g p).toList) ∧
      OPost2 x w (.returned (.agg (mC x d m t k s a g p))) (wc.setCells (w.heap.size + 1) 0 (mC x d m t k s a g p).toList) := by
  have hr := World.rangeAt_setCells_same wc (w.heap.size + 1) 0 (mC x d m t k s a g p).toList (by rw [Array.length_toList]; exact own_there h)
  refine ⟨?_, (mC x d m t k s a g p).toList, rfl, ?_, below_setCells (by omega) _ _ _ h.2.2, ?_⟩
  · have h1 := run_loadVar_mid (P := Try.prog) _ (w.heap.size + 1) 0 54 _ _ hr Try.underlying54 rfl (by rw [Array.length_toList]; exact i54)
    exact h1
  · exact kMsg.mono (fun k hk => by simp only [NN] at hk; simp only [New]; omega) (kMsg.move (fun k hk _ => setCells_other _ _ _ (by simp only [NN] at hk; omega)) hK)
  · exact Shp.mono (fun k hk => by simp only [NN] at hk; simp only [New]; omega) (Shp.move (fun k hk _ => setCells_other _ _ _ (by simp only [NN] at hk; omega)) hS)
set_option maxHeartbeats 8000000 in
set_option maxRecDepth 100000 in
theorem own_shp (x : Msg) (cs : List Value) (w : World) (h : kMsg.K w Any x cs) : Calls Try.prog 35 #[.agg cs.toArray] w (OPost2 x w) := by
  obtain ⟨d, m, t, k, s, a, g, p, rfl, hn, h1, h2, h3, h4, h5, h6⟩ := kMsg_parts h
  obtain ⟨A0, c0, A1, c1, e1, n10, q0, q1⟩ := kFact_open h1
  simp only [List.cons.injEq, true_and, and_true] at e1
  obtain ⟨rfl, rfl⟩ := e1
  obtain ⟨A4, c4, e4, q4⟩ := h3
  obtain ⟨A5, c5, e5, q5⟩ := h4
  obtain ⟨A6, c6, e6, q6⟩ := h5
  obtain ⟨A7, c7, e7, q7⟩ := h6
  simp only [List.cons.injEq, and_true] at e4 e5 e6 e7
  subst e4 e5 e6 e7
  have HC49 := fun W (I : Aside (Below w.heap.size w W)) => Aside.mk (clone49_any x.Fact.Dims A0 c0 W (Kd.C_below q0.2.2 I.out) q0.2.1)
  have HC50 := fun W (I : Aside (Below w.heap.size w W)) => Aside.mk (clone50_any x.Fact.Meas A1 c1 W (Kd.C_below q1.2.2 I.out) q1.2.1)
  have HC51 := fun W (I : Aside (Below w.heap.size w W)) => Aside.mk (filter_own x.Query.Filter _ W (Kd.below h2 I.out))
  have HC52 := fun W (I : Aside (Below w.heap.size w W)) => Aside.mk (clone52_any x.Query.Aggs A5 c5 W (Kd.C_below q5.2.2 I.out) q5.2.1)
  have HC53 := fun W (I : Aside (Below w.heap.size w W)) => Aside.mk (clone53_any x.Query.Sets A4 c4 W (fun k => k < w.heap.size) (Kd.C_below (Kd.C_mono (fun k hk => hk.2) (Kd.C_lt q4.2.2)) I.out) q4.2.1)
  have HC55 := fun W (I : Aside (Below w.heap.size w W)) => Aside.mk (clone55_any x.Segs A6 c6 W (Kd.C_below q6.2.2 I.out) q6.2.1)
  have HC56 := fun W (I : Aside (Below w.heap.size w W)) => Aside.mk (clone56_any x.Groups A7 c7 W (fun k => k < w.heap.size) (Kd.C_below (Kd.C_mono (fun k hk => hk.2) (Kd.C_lt q7.2.2)) I.out) q7.2.1)
  have HQ1 := Aside.mk (And.intro n10 (And.intro q0.2.1 q1.2.1))
  have HQ3 := Aside.mk (And.intro q5.2.1 q4.2.1)
  have HQ5 := Aside.mk (And.intro q6.2.1 q7.2.1)
  have HN := Aside.mk hn
  have HF2 := Aside.mk h2
  clear h h1 h2 hn n10 q0 q1 q4 q5 q6 q7
  change Calls Try.prog 35 #[.agg (mC x _ _ t k _ _ _ _)] w _
  go_enter Try.func35, Try.ntmps35
  go_wp2_with fail
  generalize hW : (w.alloc _).alloc _ = W
  obtain ⟨b1, b2, hbel, hsz⟩ := two_known hW
  have b2' : W.heap[w.heap.size + 1]? = some (.cells mZ 54 (0, 0)) := b2
  have HI0 : Aside (Below w.heap.size w W.drew) := ⟨hbel.drew⟩
  have HB1 := Aside.mk b1
  have HB2 := Aside.mk b2'
  have HS := Aside.mk (Nat.le_of_eq hsz.symm)
  clear hW b1 b2 b2' hbel hsz
  go_cut [9] (fun _ wc => Cut1 w x t k (.slice A4 x.Query.Sets.length c4) (.slice A5 x.Query.Aggs.length c5) (.slice A6 x.Segs.length c6) (.slice A7 x.Groups.length c7) wc)
  case first =>
    have f10 : W.cell? ⟨w.heap.size, 10, none⟩ = some (.slice A0 x.Fact.Dims.length c0) := (blk_cell HB1.out 10).trans rfl
    have g10 : W.frozen? ⟨w.heap.size, 10, none⟩ = false := blk_frozen HB1.out 10
    have f11 : W.cell? ⟨w.heap.size, 11, none⟩ = some (.slice A1 x.Fact.Meas.length c1) := (blk_cell HB1.out 11).trans rfl
    have g11 : W.frozen? ⟨w.heap.size, 11, none⟩ = false := blk_frozen HB1.out 11
    go_region_law (first
      | (go_simp; go_at_call 49; refine (HC49 _ (by assumption)).out.mono ?_; rintro e w3 ⟨A', c', rfl, hO, hb⟩; have HO3 := Aside.mk hO; have HI3 := Aside.mk (below_self HI0.out hb); have HB3 := Aside.mk hb; have hB := blk_later hb HB1.out; have f10 : w3.cell? ⟨w.heap.size, 10, none⟩ = some (.slice A0 x.Fact.Dims.length c0) := (blk_cell hB 10).trans rfl; have f11 : w3.cell? ⟨w.heap.size, 11, none⟩ = some (.slice A1 x.Fact.Meas.length c1) := (blk_cell hB 11).trans rfl; have g10 := blk_frozen hB 10; have g11 := blk_frozen hB 11; have HB13 := Aside.mk hB; have HB23 := Aside.mk (blk_later hb HB2.out); clear hO hb hB)
      | (go_simp; go_at_call 50; refine (HC50 _ (by assumption)).out.mono ?_; rintro e w4 ⟨A', c', rfl, hO, hb⟩; have HO4 := Aside.mk hO; have HI4 := Aside.mk (below_self HI3.out hb); have HB4 := Aside.mk hb; have hB := blk_later hb HB13.out; have f10 : w4.cell? ⟨w.heap.size, 10, none⟩ = some (.slice A0 x.Fact.Dims.length c0) := (blk_cell hB 10).trans rfl; have f11 : w4.cell? ⟨w.heap.size, 11, none⟩ = some (.slice A1 x.Fact.Meas.length c1) := (blk_cell hB 11).trans rfl; have g10 := blk_frozen hB 10; have g11 := blk_frozen hB 11; have HB14 := Aside.mk hB; have HB24 := Aside.mk (blk_later hb HB23.out); clear hO hb hB))
    all_goals
      go_wp2
      go_meet
      case rel => exact cut1_end HB14.out HB24.out HI4.out HO3.out HS.out HB4.out rfl HO4.out (Nat.le_trans HS.out HB3.out.size) HQ1.out
  case rest =>
    clear HI0 HB1 HB2 HS HC49 HC50 HQ1
    obtain ⟨d, m, hb, hG⟩ := hcut
    have HB1 := Aside.mk hb.1
    have HB2 := Aside.mk hb.2.1
    have HI0 := Aside.mk hb.2.2
    have HS := Aside.mk (Nat.succ_le_of_lt (blk_lt hb.2.1))
    have HG := Aside.mk hG
    clear hb hG
    go_step
    go_step
    go_cut [21] (fun _ wc => Cut2 w x (.slice A4 x.Query.Sets.length c4) (.slice A5 x.Query.Aggs.length c5) (.slice A6 x.Segs.length c6) (.slice A7 x.Groups.length c7) wc)
    case first =>
      have f14 : wc.cell? ⟨w.heap.size, 14, none⟩ = some (.int .i64 x.Query.Filter.Kind) := (blk_cell HB1.out 14).trans rfl
      have f15 : wc.cell? ⟨w.heap.size, 15, none⟩ = some (.int .i64 x.Query.Filter.Dim) := (blk_cell HB1.out 15).trans rfl
      have f16 : wc.cell? ⟨w.heap.size, 16, none⟩ = some (t) := (blk_cell HB1.out 16).trans rfl
      have f17 : wc.cell? ⟨w.heap.size, 17, none⟩ = some (.int .i64 x.Query.Filter.Lo) := (blk_cell HB1.out 17).trans rfl
      have f18 : wc.cell? ⟨w.heap.size, 18, none⟩ = some (.int .i64 x.Query.Filter.Hi) := (blk_cell HB1.out 18).trans rfl
      have f19 : wc.cell? ⟨w.heap.size, 19, none⟩ = some (k) := (blk_cell HB1.out 19).trans rfl
      obtain ⟨tA, tc, kA, kc, ht, _⟩ := kFilter_open HF2.out
      simp only [List.cons.injEq, true_and, and_true] at ht
      obtain ⟨rfl, rfl⟩ := ht
      go_wp2_with fail
      refine (HC51 _ (by assumption)).out.mono ?_
      rintro e w3 ⟨cs', rfl, hK, hb⟩
      obtain ⟨E0, e0, E1, e1, rfl, _⟩ := kFilter_open hK
      have HK := Aside.mk hK
      have HI3 := Aside.mk (below_self HI0.out hb)
      have hB := blk_later hb HB1.out
      have HB13 := Aside.mk hB
      have HB23 := Aside.mk (blk_later hb HB2.out)
      have HG3 := Aside.mk (kFact.move (fun k _ hk => hb.block k hk) HG.out)
      clear hb hK f14 f15 f16 f17 f18 f19
      have g14 : w3.frozen? ⟨w.heap.size, 14, none⟩ = false := blk_frozen hB 14
      have f14 : w3.cell? ⟨w.heap.size, 14, none⟩ = some (.int .i64 x.Query.Filter.Kind) := (blk_cell hB 14).trans rfl
      have g15 : w3.frozen? ⟨w.heap.size, 15, none⟩ = false := blk_frozen hB 15
      have f15 : w3.cell? ⟨w.heap.size, 15, none⟩ = some (.int .i64 x.Query.Filter.Dim) := (blk_cell hB 15).trans rfl
      have g16 : w3.frozen? ⟨w.heap.size, 16, none⟩ = false := blk_frozen hB 16
      have f16 : w3.cell? ⟨w.heap.size, 16, none⟩ = some (.slice tA x.Query.Filter.Texts.length tc) := (blk_cell hB 16).trans rfl
      have g17 : w3.frozen? ⟨w.heap.size, 17, none⟩ = false := blk_frozen hB 17
      have f17 : w3.cell? ⟨w.heap.size, 17, none⟩ = some (.int .i64 x.Query.Filter.Lo) := (blk_cell hB 17).trans rfl
      have g18 : w3.frozen? ⟨w.heap.size, 18, none⟩ = false := blk_frozen hB 18
      have f18 : w3.cell? ⟨w.heap.size, 18, none⟩ = some (.int .i64 x.Query.Filter.Hi) := (blk_cell hB 18).trans rfl
      have g19 : w3.frozen? ⟨w.heap.size, 19, none⟩ = false := blk_frozen hB 19
      have f19 : w3.cell? ⟨w.heap.size, 19, none⟩ = some (.slice kA x.Query.Filter.Kids.length kc) := (blk_cell hB 19).trans rfl
      clear hB
      go_wp2
      go_meet
      case rel => exact cut2_end HB13.out HB23.out HI3.out HG3.out HK.out HS.out
    case rest =>
      clear HI0 HB1 HB2 HS HG HC51 HF2
      obtain ⟨d, m, t, k, hb, hG⟩ := hcut
      have HB1 := Aside.mk hb.1
      have HB2 := Aside.mk hb.2.1
      have HI0 : Aside (Below w.heap.size w wc.drew) := Aside.mk hb.2.2.drew
      have HS : Aside (w.heap.size + 2 ≤ wc.heap.size) := Aside.mk (Nat.succ_le_of_lt (blk_lt hb.2.1))
      have HG : Aside (Got2 x wc.drew (fun k => NN w k ∧ k < wc.drew.heap.size) d m t k) := ⟨Got2.move (w := wc) (fun _ _ _ => rfl) hG.known⟩
      clear hb hG
      go_step
      go_step
      go_cut [27] (fun _ wc => Cut3 w x (.slice A6 x.Segs.length c6) (.slice A7 x.Groups.length c7) wc)
      case first =>
        have f22 : wc.cell? ⟨w.heap.size, 22, none⟩ = some (.slice A5 x.Query.Aggs.length c5) := (blk_cell HB1.out 22).trans rfl
        have g22 : wc.frozen? ⟨w.heap.size, 22, none⟩ = false := blk_frozen HB1.out 22
        have f21 : wc.cell? ⟨w.heap.size, 21, none⟩ = some (.slice A4 x.Query.Sets.length c4) := (blk_cell HB1.out 21).trans rfl
        have g21 : wc.frozen? ⟨w.heap.size, 21, none⟩ = false := blk_frozen HB1.out 21
        go_region_law (first
          | (go_simp; go_at_call 52; refine (HC52 _ (by assumption)).out.mono ?_; rintro e w3 ⟨A', c', rfl, hO, hb⟩; have HO3 := Aside.mk hO; have HI3 := Aside.mk (below_self HI0.out hb); have HB3 := Aside.mk hb; have hB := blk_later hb HB1.out; have f22 : w3.cell? ⟨w.heap.size, 22, none⟩ = some (.slice A5 x.Query.Aggs.length c5) := (blk_cell hB 22).trans rfl; have f21 : w3.cell? ⟨w.heap.size, 21, none⟩ = some (.slice A4 x.Query.Sets.length c4) := (blk_cell hB 21).trans rfl; have g22 := blk_frozen hB 22; have g21 := blk_frozen hB 21; have HB13 := Aside.mk hB; have HB23 := Aside.mk (blk_later hb HB2.out); clear hO hb hB)
          | (go_simp; go_at_call 53; refine (HC53 _ (by assumption)).out.mono ?_; rintro e w4 ⟨A', c', rfl, hO, hb⟩; have HO4 := Aside.mk hO; have HI4 := Aside.mk (below_self HI3.out hb); have HB4 := Aside.mk hb; have hB := blk_later hb HB13.out; have f22 : w4.cell? ⟨w.heap.size, 22, none⟩ = some (.slice A5 x.Query.Aggs.length c5) := (blk_cell hB 22).trans rfl; have f21 : w4.cell? ⟨w.heap.size, 21, none⟩ = some (.slice A4 x.Query.Sets.length c4) := (blk_cell hB 21).trans rfl; have g22 := blk_frozen hB 22; have g21 := blk_frozen hB 21; have HB14 := Aside.mk hB; have HB24 := Aside.mk (blk_later hb HB23.out); clear hO hb hB))
        all_goals
          go_wp2
          go_meet
          case rel => exact cut3_end (F := Any) HB14.out HB24.out HI4.out HO3.out HS.out HB4.out rfl HO4.out (Nat.le_trans HS.out HB3.out.size) HQ3.out.1 ((HG.out.move (fun k hk hl => HB3.out.block k hk.2)).move (fun k hk hl => HB4.out.block k (Nat.lt_of_lt_of_le hk.2 HB3.out.size))) HB3.out.size
      case rest =>
        clear HI0 HB1 HB2 HS HG HC52 HC53
        obtain ⟨d, m, t, k, s, a, hb, hG, SA, sc, rfl, hO⟩ := hcut
        have HB := Aside.mk hb
        have HG := Aside.mk hG
        have HO := Aside.mk hO
        have f21 : wc.cell? ⟨w.heap.size, 21, none⟩ = some (.slice SA x.Query.Sets.length sc) := (blk_cell hb.1 21).trans rfl
        clear hb hG hO
        go_step
        go_step
        go_cut [41] (fun _ wc => Cut4 w x (.slice A6 x.Segs.length c6) (.slice A7 x.Groups.length c7) wc)
        case first =>
          rcases Kd.Row_of_Own HO.out with ⟨h0, rfl, _, rfl⟩ | ⟨gs, rfl, _, hg, hF, hRow⟩
          · have HX := Aside.mk h0
            clear h0
            have hl : x.Query.Sets.length = 0 := by rw [HX.out]; rfl
            rw [hl] at f21
            go_wp2
            refine wp_loop_rounds 1 ?_
            rw [rounds_succ]
            go_wp2
            go_meet
            case rel => exact ⟨d, m, t, k, _, a, HB.out, HG.out.mono (fun k hk => hk.1), ⟨none, 0, rfl, by rw [HX.out]; exact Nat.le_refl _, HQ3.out.2, by rw [HX.out]; exact Kd.C_nil' _ _ _ _⟩, .inl (by rw [HX.out]; rfl)⟩
          · have HR := Aside.mk (sloop_start HB.out HG.out hRow hg)
            have hn : x.Query.Sets.length ≤ 9223372036854775807 := by have h1 := hRow.2.1; have h2 := hRow.2.2.1; simp only [maxLen] at h2; omega
            clear hRow hF HO HB HG hg
            go_wp2
            go_loopw [43] (fun v43 wr => ∃ i : Nat, i ≤ x.Query.Sets.length ∧ v43 = .int .i64 i ∧ SLoop w x (.slice A6 x.Segs.length c6) (.slice A7 x.Groups.length c7) d m t k a gs sc i wr) (fun v43 _ => x.Query.Sets.length - (intOf v43).toNat)
            case atStart => exact ⟨0, Nat.zero_le _, rfl, HR.out⟩
            case round =>
              obtain ⟨i, hi, rfl, hL⟩ := hrel
              have HL := Aside.mk hL
              have f21 : wr.cell? ⟨w.heap.size, 21, none⟩ = some (.slice (some ⟨gs, 0, none⟩) x.Query.Sets.length sc) := (blk_cell hL.1.1 21).trans rfl
              clear hL
              by_cases hlt : i < x.Query.Sets.length
              · obtain ⟨cs, hr, hk⟩ := HL.out.2.2.1.get hlt
                obtain ⟨y, hy⟩ : ∃ y, x.Query.Sets[i] = y := ⟨_, rfl⟩
                rw [hy] at hk
                have HY := Aside.mk hy
                obtain ⟨E0, e0, rfl, hl0, hl1, hC⟩ := hk
                have l0 : wr.cell? ⟨gs, i, none⟩ = some _ := (sloop_cells HL.out hr (Below.refl _ _)).2.1
                have HR := Aside.mk hr
                have HC54 := fun W (I : Aside (Below wr.heap.size wr W)) => Aside.mk (clone54_any y E0 e0 W (Kd.C_below (Kd.C_any hC) I.out) hl1)
                have HL1 := Aside.mk hl1
                clear hr hy hl0 hl1 hC
                go_wp2_with fail
                have HI0 : Aside (Below wr.heap.size wr wr.drew) := ⟨(Below.refl _ _).drew⟩
                go_region_law (first | (go_simp; go_at_call 54; refine (HC54 _ (by assumption)).out.mono ?_; rintro e w5 ⟨A', c', rfl, hO5, hb5⟩; have HI5 := Aside.mk (below_self HI0.out hb5); have HT5 := Aside.mk (rowIs_of (Kd.Own_mono hO5 (F' := New wr) (fun k hk => Nat.le_trans HI0.out.size hk))); have HO5 := Aside.mk (Kd.Own_K (b := 8) (Kd.Own_mono hO5 (F' := New wr) (fun k hk => Nat.le_trans HI0.out.size hk)) HL1.out); obtain ⟨f21, l0, lf⟩ := sloop_cells HL.out HR.out HI5.out; clear hO5 hb5))
                all_goals
                  go_wp2
                  go_roundw
                  case rel => exact ⟨i + 1, by omega, by go_num, sloop_step HL.out hlt HI5.out HY.out HO5.out HT5.out⟩
                  case measure => simp [intOf]; omega
              · have he : i = x.Query.Sets.length := by omega
                subst he
                have HD := Aside.mk (sloop_done HL.out HQ3.out.2)
                go_wp2
                go_meet
                case rel => exact HD.out
        case rest =>
          clear HB HG HO f21 HQ3
          obtain ⟨d, m, t, k, s, a, hb, hG⟩ := hcut
          have HB1 := Aside.mk hb.1
          have HB2 := Aside.mk hb.2.1
          have HI0 : Aside (Below w.heap.size w wc.drew) := Aside.mk hb.2.2.drew
          have HS : Aside (w.heap.size + 2 ≤ wc.heap.size) := Aside.mk (Nat.succ_le_of_lt (blk_lt hb.2.1))
          have HG : Aside (Got4 x wc.drew (fun k => NN w k ∧ k < wc.drew.heap.size) d m t k a s) := ⟨Got4.move (w := wc) (fun _ _ _ => rfl) hG.known⟩
          clear hb hG
          go_step
          go_step
          go_cut [56] (fun _ wc => Cut5 w x wc)
          case first =>
            have f39 : wc.cell? ⟨w.heap.size, 39, none⟩ = some (.slice A6 x.Segs.length c6) := (blk_cell HB1.out 39).trans rfl
            have g39 : wc.frozen? ⟨w.heap.size, 39, none⟩ = false := blk_frozen HB1.out 39
            have f40 : wc.cell? ⟨w.heap.size, 40, none⟩ = some (.slice A7 x.Groups.length c7) := (blk_cell HB1.out 40).trans rfl
            have g40 : wc.frozen? ⟨w.heap.size, 40, none⟩ = false := blk_frozen HB1.out 40
            go_region_law (first
              | (go_simp; go_at_call 55; refine (HC55 _ (by assumption)).out.mono ?_; rintro e w3 ⟨A', c', rfl, hO, hb⟩; have HO3 := Aside.mk hO; have HI3 := Aside.mk (below_self HI0.out hb); have HB3 := Aside.mk hb; have hB := blk_later hb HB1.out; have f39 : w3.cell? ⟨w.heap.size, 39, none⟩ = some (.slice A6 x.Segs.length c6) := (blk_cell hB 39).trans rfl; have f40 : w3.cell? ⟨w.heap.size, 40, none⟩ = some (.slice A7 x.Groups.length c7) := (blk_cell hB 40).trans rfl; have g39 := blk_frozen hB 39; have g40 := blk_frozen hB 40; have HB13 := Aside.mk hB; have HB23 := Aside.mk (blk_later hb HB2.out); clear hO hb hB)
              | (go_simp; go_at_call 56; refine (HC56 _ (by assumption)).out.mono ?_; rintro e w4 ⟨A', c', rfl, hO, hb⟩; have HO4 := Aside.mk hO; have HI4 := Aside.mk (below_self HI3.out hb); have HB4 := Aside.mk hb; have hB := blk_later hb HB13.out; have f39 : w4.cell? ⟨w.heap.size, 39, none⟩ = some (.slice A6 x.Segs.length c6) := (blk_cell hB 39).trans rfl; have f40 : w4.cell? ⟨w.heap.size, 40, none⟩ = some (.slice A7 x.Groups.length c7) := (blk_cell hB 40).trans rfl; have g39 := blk_frozen hB 39; have g40 := blk_frozen hB 40; have HB14 := Aside.mk hB; have HB24 := Aside.mk (blk_later hb HB23.out); clear hO hb hB))
            all_goals
              go_wp2
              go_meet
              case rel => exact cut5_end HB14.out HB24.out HI4.out HO3.out HS.out HB4.out rfl HO4.out (Nat.le_trans HS.out HB3.out.size) HQ5.out.1 ((HG.out.move (fun k hk hl => HB3.out.block k hk.2)).move (fun k hk hl => HB4.out.block k (Nat.lt_of_lt_of_le hk.2 HB3.out.size))) HB3.out.size
          case rest =>
            clear HI0 HB1 HB2 HS HG HC55 HC56
            obtain ⟨d, m, t, k, s, a, g, p, hb, hG, GA, gc, rfl, hO⟩ := hcut
            have HB := Aside.mk hb
            have HG := Aside.mk hG
            have HO := Aside.mk hO
            have f40 : wc.cell? ⟨w.heap.size, 40, none⟩ = some (.slice GA x.Groups.length gc) := (blk_cell hb.1 40).trans rfl
            clear hb hG hO
            go_step
            go_step
            go_cut [65] (fun _ wc => Cut6 w x wc)
            case first =>
              rcases Kd.Row_of_Own HO.out with ⟨h0, rfl, _, rfl⟩ | ⟨gp, rfl, _, hg, hF, hRow⟩
              · have HX := Aside.mk h0
                clear h0
                have hl : x.Groups.length = 0 := by rw [HX.out]; rfl
                rw [hl] at f40
                go_wp2
                refine wp_loop_rounds 1 ?_
                rw [rounds_succ]
                go_wp2
                go_meet
                case rel => exact ⟨d, m, t, k, s, a, g, _, HB.out, HG.out.mono (fun k hk => hk.1), ⟨none, 0, rfl, by rw [HX.out]; exact Nat.le_refl _, HQ5.out.2, by rw [HX.out]; exact Kd.C_nil' _ _ _ _⟩⟩
              · have HR := Aside.mk (gloop_start HB.out HG.out hRow hg)
                have hn : x.Groups.length ≤ 9223372036854775807 := by have h1 := hRow.2.1; have h2 := hRow.2.2.1; simp only [maxLen] at h2; omega
                clear hRow hF HO HB HG hg
                go_wp2
                go_loopw [67] (fun v67 wr => ∃ i : Nat, i ≤ x.Groups.length ∧ v67 = .int .i64 i ∧ GLoop w x d m t k a s g gp gc i wr) (fun v67 _ => x.Groups.length - (intOf v67).toNat)
                case atStart => exact ⟨0, Nat.zero_le _, rfl, HR.out⟩
                case round =>
                  obtain ⟨wo, rfl⟩ : ∃ wo : World, wo = wr := ⟨_, rfl⟩
                  obtain ⟨i, hi, rfl, hL⟩ := hrel
                  have HL := Aside.mk hL
                  have f40 : wo.cell? ⟨w.heap.size, 40, none⟩ = some (.slice (some ⟨gp, 0, none⟩) x.Groups.length gc) := (blk_cell hL.1.1 40).trans rfl
                  clear hL
                  by_cases hlt : i < x.Groups.length
                  · obtain ⟨cs, hr, hk⟩ := HL.out.2.2.1.get hlt
                    obtain ⟨y, hy⟩ : ∃ y, x.Groups[i] = y := ⟨_, rfl⟩
                    rw [hy] at hk
                    have HY := Aside.mk hy
                    have hk2 := hk
                    obtain ⟨D0, dc0, P0, pc0, rfl, n1, n2, qd, qp⟩ := kGroup_open hk
                    obtain ⟨f40', l0, l1, l2, l3, lf⟩ := gloop_cells HL.out hr (Below.refl _ _)
                    have HR := Aside.mk hr
                    have HN2 := Aside.mk (And.intro n1 (And.intro n2 (And.intro qd.2.1 qp.2.1)))
                    have HC49 := fun W (I : Aside (Below wo.heap.size wo W)) => Aside.mk (clone49_any y.Key.Dims D0 dc0 W (Kd.C_below (Kd.C_any qd.2.2) I.out) qd.2.1)
                    have HC57 := fun W (I : Aside (Below wo.heap.size wo W)) => Aside.mk (clone57_any y.Parts P0 pc0 W (fun k => k < wo.heap.size) (Kd.C_below (Kd.C_mono (fun k hk => hk.2) (Kd.C_lt qp.2.2)) I.out) qp.2.1)
                    clear hr hy hk hk2 n1 n2 qd qp f40' lf
                    go_wp2_with fail
                    clear l0 l1 l2 l3
                    generalize hV : wo.alloc _ = V
                    obtain ⟨hz, hbV, hsV⟩ : V.heap[wo.heap.size]? = some (.cells #[.int .i64 y.Key.Set, .int .i64 y.Key.Bucket, .slice D0 y.Key.Dims.length dc0, .slice P0 y.Parts.length pc0] 128 (0, 0)) ∧ Below wo.heap.size wo V ∧ wo.heap.size + 1 ≤ V.heap.size := by
                      rw [← hV]; exact ⟨blk_new _ _, below_alloc (Below.refl _ _) _, by simp⟩
                    have HI0 : Aside (Below wo.heap.size wo V.drew) := ⟨hbV.drew⟩
                    have HS := Aside.mk hsV
                    have HZ := Aside.mk hz
                    clear hV hbV hsV hz f40
                    go_cut [75] (fun _ wc => ICut1 wo y wc)
                    case first =>
                      have f2 : V.cell? ⟨wo.heap.size, 2, none⟩ = some (.slice D0 y.Key.Dims.length dc0) := (blk_cell HZ.out 2).trans rfl
                      have f3 : V.cell? ⟨wo.heap.size, 3, none⟩ = some (.slice P0 y.Parts.length pc0) := (blk_cell HZ.out 3).trans rfl
                      have g2 : V.frozen? ⟨wo.heap.size, 2, none⟩ = false := blk_frozen HZ.out 2
                      have g3 : V.frozen? ⟨wo.heap.size, 3, none⟩ = false := blk_frozen HZ.out 3
                      go_region_law (first
                        | (go_simp; go_at_call 49; refine (HC49 _ (by assumption)).out.mono ?_; rintro e w3 ⟨A', c', rfl, hO, hb⟩; have HO3 := Aside.mk hO; have HI3 := Aside.mk (below_self HI0.out hb); have HB3 := Aside.mk hb; have hB := blk_later hb HZ.out; have f2 : w3.cell? ⟨wo.heap.size, 2, none⟩ = some (.slice D0 y.Key.Dims.length dc0) := (blk_cell hB 2).trans rfl; have f3 : w3.cell? ⟨wo.heap.size, 3, none⟩ = some (.slice P0 y.Parts.length pc0) := (blk_cell hB 3).trans rfl; have g2 := blk_frozen hB 2; have g3 := blk_frozen hB 3; have HB13 := Aside.mk hB; clear hO hb hB)
                        | (go_simp; go_at_call 57; refine (HC57 _ (by assumption)).out.mono ?_; rintro e w4 ⟨A', c', rfl, hO, hb⟩; have HO4 := Aside.mk hO; have HI4 := Aside.mk (below_self HI3.out hb); have HB4 := Aside.mk hb; have hB := blk_later hb HB13.out; have f2 : w4.cell? ⟨wo.heap.size, 2, none⟩ = some (.slice D0 y.Key.Dims.length dc0) := (blk_cell hB 2).trans rfl; have f3 : w4.cell? ⟨wo.heap.size, 3, none⟩ = some (.slice P0 y.Parts.length pc0) := (blk_cell hB 3).trans rfl; have g2 := blk_frozen hB 2; have g3 := blk_frozen hB 3; have HB14 := Aside.mk hB; clear hO hb hB))
                      all_goals
                        go_wp2
                        go_meet
                        case rel => exact icut1_end ⟨HB14.out, HI4.out⟩ HO3.out HS.out HB4.out rfl HO4.out (Nat.le_trans HS.out HB3.out.size)
                    case rest =>
                      clear HI0 HS HZ HC49 HC57
                      obtain ⟨DA, dc, PA, pc, hb, hT, hO⟩ := hcut
                      have HB := Aside.mk hb
                      have HT := Aside.mk hT
                      have HO := Aside.mk hO
                      have f3 : wc.cell? ⟨wo.heap.size, 3, none⟩ = some (.slice PA y.Parts.length pc) := (blk_cell hb.1 3).trans rfl
                      clear hb hT hO
                      go_step
                      go_step
                      go_cut [83] (fun _ wc => ICut2 wo y wc)
                      case first =>
                        rcases Kd.Row_of_Own HO.out with ⟨h0, rfl, _, rfl⟩ | ⟨gq, rfl, _, hg, hF, hRow⟩
                        · have HX := Aside.mk h0
                          clear h0
                          have hl : y.Parts.length = 0 := by rw [HX.out]; rfl
                          rw [hl] at f3
                          go_wp2
                          refine wp_loop_rounds 1 ?_
                          rw [rounds_succ]
                          go_wp2
                          go_meet
                          case rel =>
                            obtain ⟨_, hTl, hTC⟩ := Own_got HT.out
                            exact ⟨_, _, HB.out, kGroup_mk _ _ y HN2.out.1 HN2.out.2.1 ⟨hTl, HN2.out.2.2.1, Kd.C_mono (fun k hk => by simp only [New]; omega) hTC⟩ ⟨by rw [HX.out]; exact Nat.le_refl _, HN2.out.2.2.2, by rw [HX.out]; exact Kd.C_nil' _ _ _ _⟩⟩
                        · have HR2 := Aside.mk (iloop_start HB.out HT.out hRow hg HN2.out.2.2.1)
                          have hn2 : y.Parts.length ≤ 9223372036854775807 := by have h1 := hRow.2.1; have h2 := hRow.2.2.1; simp only [maxLen] at h2; omega
                          clear hRow hF HO HB HT hg
                          go_wp2
                          go_loopw [85] (fun v85 wq => ∃ j : Nat, j ≤ y.Parts.length ∧ v85 = .int .i64 j ∧ ILoop wo y (.slice DA y.Key.Dims.length dc) gq pc j wq) (fun v85 _ => y.Parts.length - (intOf v85).toNat)
                          case atStart => exact ⟨0, Nat.zero_le _, rfl, HR2.out⟩
                          case round =>
                            obtain ⟨j, hj, rfl, hIL⟩ := hrel
                            have HIL := Aside.mk hIL
                            have f3 : wr.cell? ⟨wo.heap.size, 3, none⟩ = some (.slice (some ⟨gq, 0, none⟩) y.Parts.length pc) := (blk_cell hIL.1.1 3).trans rfl
                            clear hIL
                            by_cases hlt2 : j < y.Parts.length
                            · obtain ⟨cs, hr, hk⟩ := HIL.out.2.2.1.get hlt2
                              obtain ⟨q, hq⟩ : ∃ q, y.Parts[j] = q := ⟨_, rfl⟩
                              rw [hq] at hk
                              have HQQ := Aside.mk hq
                              obtain ⟨T0, tc0, rfl, m1, m2, qt⟩ := kPartial_open hk
                              obtain ⟨f3', l0, l1, l2, lf⟩ := iloop_cells HIL.out hr (Below.refl _ _)
                              have HRQ := Aside.mk hr
                              have HM := Aside.mk (And.intro m1 (And.intro m2 qt.2.1))
                              have HC49 := fun W (I : Aside (Below wr.heap.size wr W)) => Aside.mk (clone49_any q.Texts T0 tc0 W (Kd.C_below (Kd.C_any qt.2.2) I.out) qt.2.1)
                              clear hr hq hk m1 m2 qt f3' lf
                              go_wp2_with fail
                              clear l0 l1 l2 f3
                              generalize hV : wr.alloc _ = V
                              obtain ⟨hz, hbV⟩ : V.heap[wr.heap.size]? = some (.cells #[.int .u64 q.N, .int .i64 q.V, .slice T0 q.Texts.length tc0] 131 (0, 0)) ∧ Below wr.heap.size wr V := by
                                rw [← hV]; exact ⟨blk_new _ _, below_alloc (Below.refl _ _) _⟩
                              have HI0 : Aside (Below wr.heap.size wr V.drew) := ⟨hbV.drew⟩
                              have z2 : V.cell? ⟨wr.heap.size, 2, none⟩ = some (.slice T0 q.Texts.length tc0) := (blk_cell hz 2).trans rfl
                              have f3 := (iloop_cells HIL.out HRQ.out hbV).1
                              clear hV hz hbV
                              go_region_law (first | (go_simp; go_at_call 49; refine (HC49 _ (by assumption)).out.mono ?_; rintro e w5 ⟨A', c', rfl, hO5, hb5⟩; have HI5 := Aside.mk (below_self HI0.out hb5); have HO5 := Aside.mk (Own_got (Kd.Own_mono hO5 (F' := New wr) (fun k hk => Nat.le_trans HI0.out.size hk))); obtain ⟨f3, l0, l1, l2, lf⟩ := iloop_cells HIL.out HRQ.out HI5.out; clear hO5 hb5))
                              all_goals
                                go_wp2
                                go_roundw
                                case rel => exact ⟨j + 1, by omega, by go_num, iloop_step HIL.out hlt2 HI5.out HQQ.out HRQ.out HO5.out.2.2 HO5.out.2.1 HM.out⟩
                                case measure => simp [intOf]; omega
                            · have he : j = y.Parts.length := by omega
                              subst he
                              have HD := Aside.mk (iloop_done HIL.out ⟨HN2.out.1, HN2.out.2.1, HN2.out.2.2.2⟩)
                              go_wp2
                              go_meet
                              case rel => exact HD.out
                      case rest =>
                        clear HB HT HO f3
                        obtain ⟨dv, pv, hb, hK⟩ := hcut
                        have HB := Aside.mk hb
                        have HK := Aside.mk hK
                        obtain ⟨f40, l0, l1, l2, l3, lf⟩ := gloop_cells HL.out HR.out hb.2
                        have z0 : wc.cell? ⟨wo.heap.size, 0, none⟩ = some (.int .i64 y.Key.Set) := (blk_cell hb.1 0).trans rfl
                        have z1 : wc.cell? ⟨wo.heap.size, 1, none⟩ = some (.int .i64 y.Key.Bucket) := (blk_cell hb.1 1).trans rfl
                        have z2 : wc.cell? ⟨wo.heap.size, 2, none⟩ = some dv := (blk_cell hb.1 2).trans rfl
                        have z3 : wc.cell? ⟨wo.heap.size, 3, none⟩ = some pv := (blk_cell hb.1 3).trans rfl
                        obtain ⟨G0, e0, G1, e1, eG, _⟩ := kGroup_open hK
                        simp only [List.cons.injEq, true_and, and_true] at eG
                        obtain ⟨rfl, rfl⟩ := eG
                        clear hb hK
                        go_wp2
                        go_roundw
                        case rel => exact ⟨i + 1, by omega, by go_num, gloop_step HL.out hlt HB.out.2 HY.out HK.out⟩
                        case measure => simp [intOf]; omega
                  · have he : i = x.Groups.length := by omega
                    subst he
                    have HD := Aside.mk (gloop_done HL.out HQ5.out.2)
                    go_wp2
                    go_meet
                    case rel => exact HD.out
            case rest =>
              clear HB HG HO f40 HQ5
              obtain ⟨d, m, t, k, s, a, g, p, hb, hG, hP⟩ := hcut
              have HJ := Aside.mk (kMsg_join HN.out hG.1.1.1.1 hG.1.1.1.2 hG.1.2.1 hG.1.1.2 hG.2.1 hP)
              have HSh := Aside.mk (show Shp x wc (NN w) (mC x d m t k s a g p).toList from ⟨s, g, rfl, rfl, hG.1.2.2, hG.2.2⟩)
              have HB := Aside.mk hb
              clear hb hG hP HN
              go_step
              go_step
              apply wp_region_lit
              refine wpList_load_row rfl 54 (.tmp 1) rfl w.heap.size rfl 54 _ (0, 0) _ HB.out.1 Try.underlying54 rfl i54 ?_
              refine wpList_store_mid rfl 54 (.tmp 2) (.tmp 105) rfl (w.heap.size + 1) 0 _ rfl rfl (own_there HB.out) i54 (all_oneCell_toArray (fun v hv => kMsg.one HJ.out v hv)) ?_
              apply wpList_nil
              have HE := Aside.mk (own_end HB.out HJ.out HSh.out)
              clear HJ HB
              rename_i K hK
              refine hK _ _ ?_
              apply wp_ret
              exact bodyPost_ret (results_cell1 (p := 2) (ty := 54) rfl rfl HE.out.1) rfl HE.out.2
theorem own_any (x : Msg) (cs : List Value) (w : World) (h : kMsg.K w Any x cs) : Calls Try.prog 35 #[.agg cs.toArray] w (OPost x w) :=
  (own_shp x cs w h).mono fun e w' ⟨cs', h1, h2, h3, _⟩ => ⟨cs', h1, h2, h3⟩
end Go.Proofs.Ytjpeaeklhcnpnaa.K
