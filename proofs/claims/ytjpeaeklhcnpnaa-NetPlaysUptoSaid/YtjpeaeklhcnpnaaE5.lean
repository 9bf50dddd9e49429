/- gristmillref01.query by a contract. No condition but that the bytes fit into memory. -/
import Derived.Test.YtjpeaeklhcnpnaaE4
namespace Go.Proofs.Ytjpeaeklhcnpnaa.K
open Go.RowKit Go.Lib
set_option linter.unusedVariables false
set_option linter.unusedSimpArgs false
theorem cell_blk {w : World} {a : Addr} {v : Value} (h : w.cell? a = some v) : a.block < w.heap.size := World.block_lt_of_cell? w a h
/-- What lies below base lies there still. -/
theorem BS.at_ {w0 w : World} {base : Nat} {v0 v : Value} {bs : List Value} {gb : Option Nat} {obj : Obj} (h : BS w0 w base v0 v bs gb obj) (hv : ∀ k, v0.ownBlock = some k → base ≤ k) {a : Addr} {u : Value} (hb : a.block < base) (hc : w0.cell? a = some u) : w.cell? a = some u :=
  (World.cell?_of_block (h.keeps hv a.block hb (cell_blk hc))).trans hc
theorem cell1_all {α : Type} {d : Kd α} (hd : d.sz = 1) {w : World} {F : Nat → Prop} {A : Option Addr} {n : Nat} {xs : List α} (h : d.C w F A n xs) {i : Nat} (hi : i < xs.length) :
    ∃ ad c, A = some ad ∧ d.K w F xs[i] c ∧ F (ad.add i).block ∧ ∀ u, c[0]? = some u → w.cell? (ad.add i) = some u := by
  obtain ⟨ad, c, e, hF, hl, hK, hc⟩ := Kd.C_get h hi
  refine ⟨ad, c, e, hK, by rw [Kd.add_block]; exact hF, fun u hu => ?_⟩
  have h1 := hc 0 u hu
  rw [hd, Nat.mul_one, Nat.add_zero] at h1
  exact h1
def setV (s : List Int) : List Value := uintV s.length ++ s.flatMap intV
def aggV (a : Agg) : List Value := intV a.Kind ++ intV a.Col
def queryH (x : Query) : List Value := spanV x.Span ++ filterV x.Filter ++ intV x.Grain ++ uintV x.Sets.length
def queryI (x : Query) : List Value := queryH x ++ x.Sets.flatMap setV ++ uintV x.Aggs.length
def queryV (x : Query) : List Value := queryI x ++ x.Aggs.flatMap aggV ++ intV x.Groups ++ intV x.Rows
/-- A query's cells. -/
abbrev queryC (x : Query) (A0 A1 A2 A3 : Option Addr) (c0 c1 c2 c3 : Nat) : Array Value := #[.int .i64 x.Span.From, .int .i64 x.Span.To, .int .i64 x.Filter.Kind, .int .i64 x.Filter.Dim, .slice A0 x.Filter.Texts.length c0, .int .i64 x.Filter.Lo, .int .i64 x.Filter.Hi, .slice A1 x.Filter.Kids.length c1, .int .i64 x.Grain, .slice A2 x.Sets.length c2, .slice A3 x.Aggs.length c3, .int .i64 x.Groups, .int .i64 x.Rows]
set_option maxHeartbeats 8000000 in
set_option maxRecDepth 100000 in
theorem query_any {W : World} {base n0 z0 : Nat} {Z : Option Addr} {bs cs : List Value} {x : Query} (hO : BB W base (.slice Z n0 z0) bs) (hb : base ≤ W.heap.size) (hK : kQuery.K W (fun k => k < base) x cs) (hsz : (bs ++ queryV x).length + 100 ≤ 140737488355328) :
    Calls Try.prog 61 #[.slice Z n0 z0, .agg cs.toArray] W (Wrote base W (.slice Z n0 z0) (bs ++ queryV x)) := by
  obtain ⟨A0, c0, A1, c1, A2, c2, A3, c3, rfl, h1, h2, h3, h4, g0, h5, h6, g1, h7, ⟨_, _, hC2⟩, ⟨_, _, hC3⟩, h8, h9⟩ := kQuery_open hK
  have HKF := Aside.mk (kFilter_mk W (fun k => k < base) x.Filter h3 h4 g0 h5 h6 g1)
  have HV := Aside.mk (fun k (hk : (Value.slice Z n0 z0).ownBlock = some k) => (hO.lt k hk).1)
  have HS := Aside.mk (BS.boxed hO hb (.cells (queryC x A0 A1 A2 A3 c0 c1 c2 c3) 44))
  have f0 : (W.alloc (.cells (queryC x A0 A1 A2 A3 c0 c1 c2 c3) 44)).cell? ⟨W.heap.size, 0, none⟩ = some (.int .i64 x.Span.From) := (HS.out.cell 0).trans rfl
  have f1 : (W.alloc (.cells (queryC x A0 A1 A2 A3 c0 c1 c2 c3) 44)).cell? ⟨W.heap.size, 1, none⟩ = some (.int .i64 x.Span.To) := (HS.out.cell 1).trans rfl
  have HT : Aside (bs.length + (spanV x.Span).length + (filterV x.Filter).length + (intV x.Grain).length + (uintV x.Sets.length).length + (x.Sets.flatMap setV).length + (uintV x.Aggs.length).length + (x.Aggs.flatMap aggV).length + (intV x.Groups).length + (intV x.Rows).length + 100 ≤ 140737488355328) := ⟨by unfold queryV queryI queryH at hsz; simp only [List.length_append] at hsz ⊢; omega⟩
  have HSZ : Aside ((bs ++ spanV x.Span ++ filterV x.Filter ++ intV x.Grain ++ uintV x.Sets.length).length + 100 ≤ 140737488355328) := ⟨by have := HT.out; simp only [List.length_append] at this ⊢; omega⟩
  have HCS : Aside ((bs ++ spanV x.Span).length + 100 ≤ 140737488355328) := ⟨by have := HT.out; simp only [List.length_append] at this ⊢; omega⟩
  have HCF : Aside ((bs ++ spanV x.Span ++ filterV x.Filter).length + 100 ≤ 140737488355328) := ⟨by have := HT.out; simp only [List.length_append] at this ⊢; omega⟩
  have HC2 := Aside.mk hC2
  have HC3 := Aside.mk hC3
  have HW := Aside.mk (And.intro h1 (And.intro h2 (And.intro h8 h9)))
  have hk2 : x.Sets.length ≤ 9223372036854775807 := hC2.2.1
  have hk3 : x.Aggs.length ≤ 9223372036854775807 := hC3.2.1
  have hw2 : IntKind.u64.wrap (x.Sets.length : Int) = x.Sets.length := by rw [IntKind.wrap_u64]; omega
  have hw3 : IntKind.u64.wrap (x.Aggs.length : Int) = x.Aggs.length := by rw [IntKind.wrap_u64]; omega
  have HT0 : Aside True := ⟨trivial⟩
  have HI2 := fun W_ => Aside.mk (int_any x.Grain h7 W_)
  have HY2 : Aside (0 < (intV x.Grain).length) := ⟨(intV_len _).1⟩
  have HL2 : Aside ((bs ++ spanV x.Span ++ filterV x.Filter).length + (intV x.Grain).length ≤ 140737488355328) := ⟨by have := HSZ.out; simp only [List.length_append] at this ⊢; omega⟩
  have HI3 := fun W_ => Aside.mk (uint_any x.Sets.length (by omega) W_)
  have HY3 : Aside (0 < (uintV x.Sets.length).length) := ⟨(uintV_len _).1⟩
  have HL3 : Aside ((bs ++ spanV x.Span ++ filterV x.Filter ++ intV x.Grain).length + (uintV x.Sets.length).length ≤ 140737488355328) := ⟨by have := HSZ.out; simp only [List.length_append] at this ⊢; omega⟩
  clear hO hsz hK h1 h2 h3 h4 h5 h6 h7 h8 h9 g0 g1 hC2 hC3
  unfold queryC at *
  go_enter Try.func61, Try.ntmps61
  go_wp2_with (first
    | (refine wpList_append_bb rfl _ _ rfl (by rfl) (by rfl) HP3.out HQ3.out HY3.out HL3.out ?_; intro A3_ n3_ c3_ w3 hS; have f2 : w3.cell? ⟨W.heap.size, 2, none⟩ = some (.int .i64 x.Filter.Kind) := (hS.cell 2).trans rfl; have f3 : w3.cell? ⟨W.heap.size, 3, none⟩ = some (.int .i64 x.Filter.Dim) := (hS.cell 3).trans rfl; have f4 : w3.cell? ⟨W.heap.size, 4, none⟩ = some (.slice A0 x.Filter.Texts.length c0) := (hS.cell 4).trans rfl; have f5 : w3.cell? ⟨W.heap.size, 5, none⟩ = some (.int .i64 x.Filter.Lo) := (hS.cell 5).trans rfl; have f6 : w3.cell? ⟨W.heap.size, 6, none⟩ = some (.int .i64 x.Filter.Hi) := (hS.cell 6).trans rfl; have f7 : w3.cell? ⟨W.heap.size, 7, none⟩ = some (.slice A1 x.Filter.Kids.length c1) := (hS.cell 7).trans rfl; have f8 : w3.cell? ⟨W.heap.size, 8, none⟩ = some (.int .i64 x.Grain) := (hS.cell 8).trans rfl; have f9 : w3.cell? ⟨W.heap.size, 9, none⟩ = some (.slice A2 x.Sets.length c2) := (hS.cell 9).trans rfl; have HS := Aside.mk hS; have HT4 : Aside True := ⟨trivial⟩; clear hS HP3 HQ3)
    | (have _t := HT3; clear _t HT3; go_at_call 59; refine (HI3 _).out.mono ?_; rintro e w3a ⟨B3_, m3_, d3_, rfl, hY, hbw⟩; have HP3 := Aside.mk (HS.out.call hbw); have HQ3 := Aside.mk hY; clear hY hbw)
    | (refine wpList_append_bb rfl _ _ rfl (by rfl) (by rfl) HP2.out HQ2.out HY2.out HL2.out ?_; intro A2_ n2_ c2_ w2 hS; have f2 : w2.cell? ⟨W.heap.size, 2, none⟩ = some (.int .i64 x.Filter.Kind) := (hS.cell 2).trans rfl; have f3 : w2.cell? ⟨W.heap.size, 3, none⟩ = some (.int .i64 x.Filter.Dim) := (hS.cell 3).trans rfl; have f4 : w2.cell? ⟨W.heap.size, 4, none⟩ = some (.slice A0 x.Filter.Texts.length c0) := (hS.cell 4).trans rfl; have f5 : w2.cell? ⟨W.heap.size, 5, none⟩ = some (.int .i64 x.Filter.Lo) := (hS.cell 5).trans rfl; have f6 : w2.cell? ⟨W.heap.size, 6, none⟩ = some (.int .i64 x.Filter.Hi) := (hS.cell 6).trans rfl; have f7 : w2.cell? ⟨W.heap.size, 7, none⟩ = some (.slice A1 x.Filter.Kids.length c1) := (hS.cell 7).trans rfl; have f8 : w2.cell? ⟨W.heap.size, 8, none⟩ = some (.int .i64 x.Grain) := (hS.cell 8).trans rfl; have f9 : w2.cell? ⟨W.heap.size, 9, none⟩ = some (.slice A2 x.Sets.length c2) := (hS.cell 9).trans rfl; have HS := Aside.mk hS; have HT3 : Aside True := ⟨trivial⟩; clear hS HP2 HQ2)
    | (have _t := HT2; clear _t HT2; go_at_call 58; refine (HI2 _).out.mono ?_; rintro e w2a ⟨B2_, m2_, d2_, rfl, hY, hbw⟩; have HP2 := Aside.mk (HS.out.call hbw); have HQ2 := Aside.mk hY; clear hY hbw)
    | (have _t := HT1; clear _t HT1; go_at_call 76; refine (filterB_any HS.out.own HS.out.base (kFilter.move (fun k hk hl => HS.out.keeps HV.out k hk hl) HKF.out) HCF.out).mono ?_; rintro e w1 ⟨A1_, n1_, c1_, rfl, hO_, hc_, hs_⟩; have hS := HS.out.wrote hO_ hc_ hs_; have f2 : w1.cell? ⟨W.heap.size, 2, none⟩ = some (.int .i64 x.Filter.Kind) := (hS.cell 2).trans rfl; have f3 : w1.cell? ⟨W.heap.size, 3, none⟩ = some (.int .i64 x.Filter.Dim) := (hS.cell 3).trans rfl; have f4 : w1.cell? ⟨W.heap.size, 4, none⟩ = some (.slice A0 x.Filter.Texts.length c0) := (hS.cell 4).trans rfl; have f5 : w1.cell? ⟨W.heap.size, 5, none⟩ = some (.int .i64 x.Filter.Lo) := (hS.cell 5).trans rfl; have f6 : w1.cell? ⟨W.heap.size, 6, none⟩ = some (.int .i64 x.Filter.Hi) := (hS.cell 6).trans rfl; have f7 : w1.cell? ⟨W.heap.size, 7, none⟩ = some (.slice A1 x.Filter.Kids.length c1) := (hS.cell 7).trans rfl; have f8 : w1.cell? ⟨W.heap.size, 8, none⟩ = some (.int .i64 x.Grain) := (hS.cell 8).trans rfl; have f9 : w1.cell? ⟨W.heap.size, 9, none⟩ = some (.slice A2 x.Sets.length c2) := (hS.cell 9).trans rfl; have HS := Aside.mk hS; have HT2 : Aside True := ⟨trivial⟩; clear hS hO_ hc_ hs_)
    | (have _t := HT0; clear _t HT0; go_at_call 63; refine (span_any (x := x.Span) HS.out.own HS.out.base HW.out.1 HW.out.2.1 HCS.out).mono ?_; rintro e w0 ⟨A0_, n0_, c0_, rfl, hO_, hc_, hs_⟩; have hS := HS.out.wrote hO_ hc_ hs_; have f2 : w0.cell? ⟨W.heap.size, 2, none⟩ = some (.int .i64 x.Filter.Kind) := (hS.cell 2).trans rfl; have f3 : w0.cell? ⟨W.heap.size, 3, none⟩ = some (.int .i64 x.Filter.Dim) := (hS.cell 3).trans rfl; have f4 : w0.cell? ⟨W.heap.size, 4, none⟩ = some (.slice A0 x.Filter.Texts.length c0) := (hS.cell 4).trans rfl; have f5 : w0.cell? ⟨W.heap.size, 5, none⟩ = some (.int .i64 x.Filter.Lo) := (hS.cell 5).trans rfl; have f6 : w0.cell? ⟨W.heap.size, 6, none⟩ = some (.int .i64 x.Filter.Hi) := (hS.cell 6).trans rfl; have f7 : w0.cell? ⟨W.heap.size, 7, none⟩ = some (.slice A1 x.Filter.Kids.length c1) := (hS.cell 7).trans rfl; have f8 : w0.cell? ⟨W.heap.size, 8, none⟩ = some (.int .i64 x.Grain) := (hS.cell 8).trans rfl; have f9 : w0.cell? ⟨W.heap.size, 9, none⟩ = some (.slice A2 x.Sets.length c2) := (hS.cell 9).trans rfl; have HS := Aside.mk hS; have HT1 : Aside True := ⟨trivial⟩; clear hS hO_ hc_ hs_))
  have HS0 : Aside (BS W w3 base (.slice Z n0 z0) (.slice A3_ n3_ c3_) (bs ++ queryH x) (some W.heap.size) (.cells (queryC x A0 A1 A2 A3 c0 c1 c2 c3) 44)) := ⟨by have := HS.out; unfold queryH; simp only [List.append_assoc] at this ⊢; exact this⟩
  clear HSZ HCS HCF HKF HS HT4
  go_loopw [0, 5] (fun v0 v5 wr => ∃ (i : Nat) (A : Option Addr) (n c : Nat), i ≤ x.Sets.length ∧ v0 = .slice A n c ∧ v5 = .int .i64 i ∧ Aside (BS W wr base (.slice Z n0 z0) (.slice A n c) (bs ++ queryH x ++ (x.Sets.take i).flatMap setV) (some W.heap.size) (.cells (queryC x A0 A1 A2 A3 c0 c1 c2 c3) 44))) (fun _ v5 _ => x.Sets.length - (intOf v5).toNat)
  case atStart => exact ⟨0, A3_, n3_, c3_, Nat.zero_le _, rfl, rfl, ⟨by have := HS0.out; simpa using this⟩⟩
  case round =>
    obtain ⟨i, A, n, c, hi, rfl, rfl, HS⟩ := hrel
    have f9 : wr.cell? ⟨W.heap.size, 9, none⟩ = some (.slice A2 x.Sets.length c2) := (HS.out.cell 9).trans rfl
    clear HS0
    by_cases hlt : i < x.Sets.length
    · obtain ⟨ad, cc, rfl, ⟨A5, c5, rfl, _, _, hCI⟩, hbl, hf⟩ := cell1_all rfl HC2.out hlt
      have HB := Aside.mk (And.intro hbl (hf _ rfl))
      have hst := flat_step setV x.Sets i hlt
      have hle := flat_take_len setV x.Sets (i + 1)
      have HST := Aside.mk hst
      obtain ⟨s, hs⟩ : ∃ s, x.Sets[i] = s := ⟨_, rfl⟩
      rw [hs] at hCI HB HST hst
      have HLE : Aside (((x.Sets.take i).flatMap setV).length + (uintV s.length).length + (s.flatMap intV).length ≤ (x.Sets.flatMap setV).length) := ⟨by rw [hst] at hle; unfold setV at hle ⊢; simp only [List.length_append] at hle ⊢; omega⟩
      have HCI := Aside.mk hCI
      have hks : s.length ≤ 9223372036854775807 := hCI.2.1
      have hws : IntKind.u64.wrap (s.length : Int) = s.length := by rw [IntKind.wrap_u64]; omega
      have e9 : wr.cell? (ad.add i) = some (.slice A5 s.length c5) := HS.out.at_ HV.out HB.out.1 HB.out.2
      have HTa0 : Aside True := ⟨trivial⟩
      have HIa0 := fun W_ => Aside.mk (uint_any s.length (by omega) W_)
      have HYa0 : Aside (0 < (uintV s.length).length) := ⟨(uintV_len _).1⟩
      have HLa0 : Aside ((bs ++ queryH x ++ (x.Sets.take i).flatMap setV).length + (uintV s.length).length ≤ 140737488355328) := ⟨by have := HT.out; have h2_ := HLE.out; unfold queryH; simp only [List.length_append] at this h2_ ⊢; omega⟩
      clear hf hst hle hs hCI hbl
      go_wp2_with (first
        | (refine wpList_append_bb rfl _ _ rfl (by rfl) (by rfl) HPa0.out HQa0.out HYa0.out HLa0.out ?_; intro Aa0_ na0_ ca0_ wa0 hS; have HS := Aside.mk hS; have HTa1 : Aside True := ⟨trivial⟩; clear hS HPa0 HQa0)
        | (have _t := HTa0; clear _t HTa0; go_at_call 59; refine (HIa0 _).out.mono ?_; rintro e wa0a ⟨Ba0_, ma0_, da0_, rfl, hY, hbw⟩; have HPa0 := Aside.mk (HS.out.call hbw); have HQa0 := Aside.mk hY; clear hY hbw))
      go_loopw [0, 6] (fun v0 v6 wr => ∃ (k : Nat) (A : Option Addr) (n c : Nat), k ≤ s.length ∧ v0 = .slice A n c ∧ v6 = .int .i64 k ∧ Aside (BS W wr base (.slice Z n0 z0) (.slice A n c) (bs ++ queryH x ++ (x.Sets.take i).flatMap setV ++ uintV s.length ++ (s.take k).flatMap intV) (some W.heap.size) (.cells (queryC x A0 A1 (some ad) A3 c0 c1 c2 c3) 44))) (fun _ v6 _ => s.length - (intOf v6).toNat)
      case atStart => exact ⟨0, Aa0_, na0_, ca0_, Nat.zero_le _, rfl, rfl, ⟨by have := HS.out; simpa using this⟩⟩
      case round =>
        clear HS
        obtain ⟨k, A4, n4, c4, hkl, rfl, rfl, HS⟩ := hrel
        have f9 : wr.cell? ⟨W.heap.size, 9, none⟩ = some (.slice (some ad) x.Sets.length c2) := (HS.out.cell 9).trans rfl
        have e9 : wr.cell? (ad.add i) = some (.slice A5 s.length c5) := HS.out.at_ HV.out HB.out.1 HB.out.2
        by_cases hlt2 : k < s.length
        · obtain ⟨ad2, cc2, rfl, ⟨rfl, hw⟩, hbl2, hf2⟩ := cell1_all rfl HCI.out hlt2
          have e10 : wr.cell? (ad2.add k) = some (.int .i64 s[k]) := HS.out.at_ HV.out hbl2 (hf2 _ rfl)
          have hst := flat_step intV s k hlt2
          have hle := flat_take_len intV s (k + 1)
          have HST2 := Aside.mk hst
          obtain ⟨y, hy⟩ : ∃ y, s[k] = y := ⟨_, rfl⟩
          rw [hy] at hw e10 HST2 hst
          have HLE2 : Aside (((s.take k).flatMap intV).length + (intV y).length ≤ (s.flatMap intV).length) := ⟨by rw [hst] at hle; simp only [List.length_append] at hle ⊢; omega⟩
          have HTb0 : Aside True := ⟨trivial⟩
          have HIb0 := fun W_ => Aside.mk (int_any y hw W_)
          have HYb0 : Aside (0 < (intV y).length) := ⟨(intV_len _).1⟩
          have HLb0 : Aside ((bs ++ queryH x ++ (x.Sets.take i).flatMap setV ++ uintV s.length ++ (s.take k).flatMap intV).length + (intV y).length ≤ 140737488355328) := ⟨by have := HT.out; have h2_ := HLE.out; have h3_ := HLE2.out; unfold queryH; simp only [List.length_append] at this h2_ h3_ ⊢; omega⟩
          clear hst hle hy hw hf2 hbl2
          go_wp2_with (first
            | (refine wpList_append_bb rfl _ _ rfl (by rfl) (by rfl) HPb0.out HQb0.out HYb0.out HLb0.out ?_; intro Ab0_ nb0_ cb0_ wb0 hS; have HS := Aside.mk hS; have HTb1 : Aside True := ⟨trivial⟩; clear hS HPb0 HQb0)
            | (have _t := HTb0; clear _t HTb0; go_at_call 58; refine (HIb0 _).out.mono ?_; rintro e wb0a ⟨Bb0_, mb0_, db0_, rfl, hY, hbw⟩; have HPb0 := Aside.mk (HS.out.call hbw); have HQb0 := Aside.mk hY; clear hY hbw))
          go_round
          case rel => exact ⟨k + 1, Ab0_, nb0_, cb0_, hlt2, rfl, rfl, ⟨by rw [HST2.out, ← List.append_assoc]; exact HS.out⟩⟩
          case measure => simp only [intOf]; omega
        · obtain rfl : k = s.length := by omega
          have HSX : Aside (BS W wr base (.slice Z n0 z0) (.slice A4 n4 c4) (bs ++ queryH x ++ (x.Sets.take (i + 1)).flatMap setV) (some W.heap.size) (.cells (queryC x A0 A1 (some ad) A3 c0 c1 c2 c3) 44)) := ⟨by
            have := HS.out
            rw [List.take_length] at this
            rw [HST.out]
            unfold setV at this ⊢
            simp only [List.append_assoc] at this ⊢
            exact this⟩
          clear HS
          go_wp2
          go_round
          case rel => exact ⟨i + 1, A4, n4, c4, hlt, rfl, rfl, HSX⟩
          case measure => simp only [intOf]; omega
    · obtain rfl : i = x.Sets.length := by omega
      have f10 : wr.cell? ⟨W.heap.size, 10, none⟩ = some (.slice A3 x.Aggs.length c3) := (HS.out.cell 10).trans rfl
      have HS' := Aside.mk HS.out
      rw [List.take_length] at HS'
      clear HS
      have HS := HS'
      clear HS'
      have HTc0 : Aside True := ⟨trivial⟩
      have HIc0 := fun W_ => Aside.mk (uint_any x.Aggs.length (by omega) W_)
      have HYc0 : Aside (0 < (uintV x.Aggs.length).length) := ⟨(uintV_len _).1⟩
      have HLc0 : Aside ((bs ++ queryH x ++ x.Sets.flatMap setV).length + (uintV x.Aggs.length).length ≤ 140737488355328) := ⟨by have := HT.out; unfold queryH; simp only [List.length_append] at this ⊢; omega⟩
      go_wp2_with (first
        | (refine wpList_append_bb rfl _ _ rfl (by rfl) (by rfl) HPc0.out HQc0.out HYc0.out HLc0.out ?_; intro Ac0_ nc0_ cc0_ wc0 hS; have f10 : wc0.cell? ⟨W.heap.size, 10, none⟩ = some (.slice A3 x.Aggs.length c3) := (hS.cell 10).trans rfl; have HS := Aside.mk hS; have HTc1 : Aside True := ⟨trivial⟩; clear hS HPc0 HQc0)
        | (have _t := HTc0; clear _t HTc0; go_at_call 59; refine (HIc0 _).out.mono ?_; rintro e wc0a ⟨Bc0_, mc0_, dc0_, rfl, hY, hbw⟩; have HPc0 := Aside.mk (HS.out.call hbw); have HQc0 := Aside.mk hY; clear hY hbw))
      have HS0 : Aside (BS W wc0 base (.slice Z n0 z0) (.slice Ac0_ nc0_ cc0_) (bs ++ queryI x) (some W.heap.size) (.cells (queryC x A0 A1 A2 A3 c0 c1 c2 c3) 44)) := ⟨by have := HS.out; unfold queryI; simp only [List.append_assoc] at this ⊢; exact this⟩
      clear HS
      go_loopw [0, 7] (fun v0 v7 wr => ∃ (i : Nat) (A : Option Addr) (n c : Nat), i ≤ x.Aggs.length ∧ v0 = .slice A n c ∧ v7 = .int .i64 i ∧ Aside (BS W wr base (.slice Z n0 z0) (.slice A n c) (bs ++ queryI x ++ (x.Aggs.take i).flatMap aggV) (some W.heap.size) (.cells (queryC x A0 A1 A2 A3 c0 c1 c2 c3) 44))) (fun _ v7 _ => x.Aggs.length - (intOf v7).toNat)
      case atStart => exact ⟨0, Ac0_, nc0_, cc0_, Nat.zero_le _, rfl, rfl, ⟨by have := HS0.out; simpa using this⟩⟩
      case round =>
        obtain ⟨i, A, n, c, hi, rfl, rfl, HS⟩ := hrel
        have f10 : wr.cell? ⟨W.heap.size, 10, none⟩ = some (.slice A3 x.Aggs.length c3) := (HS.out.cell 10).trans rfl
        clear HS0
        by_cases hlt : i < x.Aggs.length
        · obtain ⟨ad, rfl, hF, hl_, l0, l1, hKA⟩ := kAgg_at HC3.out (Below.refl _ _) hlt
          have HB := Aside.mk (And.intro (show (ad.add (i * 2)).block < base by rw [Kd.add_block]; exact hF) (And.intro l0 l1))
          obtain ⟨_, hwk, hwc⟩ := kAgg_open hKA
          have e0 : wr.cell? (ad.add (i * 2)) = some (.int .i64 x.Aggs[i].Kind) := HS.out.at_ HV.out HB.out.1 l0
          have hst := flat_step aggV x.Aggs i hlt
          have hle := flat_take_len aggV x.Aggs (i + 1)
          have HST := Aside.mk hst
          clear l0 l1 hKA hF hl_
          obtain ⟨y, hy⟩ : ∃ y, x.Aggs[i] = y := ⟨_, rfl⟩
          rw [hy] at HB hwk hwc e0 HST hst
          have HLE : Aside (((x.Aggs.take i).flatMap aggV).length + (intV y.Kind).length + (intV y.Col).length ≤ (x.Aggs.flatMap aggV).length) := ⟨by rw [hst] at hle; unfold aggV at hle ⊢; simp only [List.length_append] at hle ⊢; omega⟩
          have HTd0 : Aside True := ⟨trivial⟩
          have HId0 := fun W_ => Aside.mk (int_any y.Kind hwk W_)
          have HYd0 : Aside (0 < (intV y.Kind).length) := ⟨(intV_len _).1⟩
          have HLd0 : Aside ((bs ++ queryI x ++ (x.Aggs.take i).flatMap aggV).length + (intV y.Kind).length ≤ 140737488355328) := ⟨by have := HT.out; have h2_ := HLE.out; unfold queryI queryH; simp only [List.length_append] at this h2_ ⊢; omega⟩
          have HId1 := fun W_ => Aside.mk (int_any y.Col hwc W_)
          have HYd1 : Aside (0 < (intV y.Col).length) := ⟨(intV_len _).1⟩
          have HLd1 : Aside ((bs ++ queryI x ++ (x.Aggs.take i).flatMap aggV ++ intV y.Kind).length + (intV y.Col).length ≤ 140737488355328) := ⟨by have := HT.out; have h2_ := HLE.out; unfold queryI queryH; simp only [List.length_append] at this h2_ ⊢; omega⟩
          clear hst hle hy hwk hwc
          go_wp2_with (first
            | (refine wpList_append_bb rfl _ _ rfl (by rfl) (by rfl) HPd1.out HQd1.out HYd1.out HLd1.out ?_; intro Ad1_ nd1_ cd1_ wd1 hS; have f10 : wd1.cell? ⟨W.heap.size, 10, none⟩ = some (.slice (some ad) x.Aggs.length c3) := (hS.cell 10).trans rfl; have e1 : wd1.cell? ⟨(ad.add (i * 2)).block, (ad.add (i * 2)).off + 1, none⟩ = some (.int .i64 y.Col) := hS.at_ HV.out HB.out.1 HB.out.2.2; have HS := Aside.mk hS; have HTd2 : Aside True := ⟨trivial⟩; clear hS HPd1 HQd1)
            | (have _t := HTd1; clear _t HTd1; go_at_call 58; refine (HId1 _).out.mono ?_; rintro e wd1a ⟨Bd1_, md1_, dd1_, rfl, hY, hbw⟩; have HPd1 := Aside.mk (HS.out.call hbw); have HQd1 := Aside.mk hY; clear hY hbw)
            | (refine wpList_append_bb rfl _ _ rfl (by rfl) (by rfl) HPd0.out HQd0.out HYd0.out HLd0.out ?_; intro Ad0_ nd0_ cd0_ wd0 hS; have f10 : wd0.cell? ⟨W.heap.size, 10, none⟩ = some (.slice (some ad) x.Aggs.length c3) := (hS.cell 10).trans rfl; have e1 : wd0.cell? ⟨(ad.add (i * 2)).block, (ad.add (i * 2)).off + 1, none⟩ = some (.int .i64 y.Col) := hS.at_ HV.out HB.out.1 HB.out.2.2; have HS := Aside.mk hS; have HTd1 : Aside True := ⟨trivial⟩; clear hS HPd0 HQd0)
            | (have _t := HTd0; clear _t HTd0; go_at_call 58; refine (HId0 _).out.mono ?_; rintro e wd0a ⟨Bd0_, md0_, dd0_, rfl, hY, hbw⟩; have HPd0 := Aside.mk (HS.out.call hbw); have HQd0 := Aside.mk hY; clear hY hbw))
          go_round
          case rel => exact ⟨i + 1, Ad1_, nd1_, cd1_, hlt, rfl, rfl, ⟨by have := HS.out; rw [HST.out]; unfold aggV at this ⊢; simp only [List.append_assoc] at this ⊢; exact this⟩⟩
          case measure => simp only [intOf]; omega
        · obtain rfl : i = x.Aggs.length := by omega
          have f11 : wr.cell? ⟨W.heap.size, 11, none⟩ = some (.int .i64 x.Groups) := (HS.out.cell 11).trans rfl
          have HS' := Aside.mk HS.out
          rw [List.take_length] at HS'
          clear HS
          have HS := HS'
          clear HS'
          have h8 := HW.out.2.2.1
          have h9 := HW.out.2.2.2
          have HTe0 : Aside True := ⟨trivial⟩
          have HIe0 := fun W_ => Aside.mk (int_any x.Groups h8 W_)
          have HYe0 : Aside (0 < (intV x.Groups).length) := ⟨(intV_len _).1⟩
          have HLe0 : Aside ((bs ++ queryI x ++ x.Aggs.flatMap aggV).length + (intV x.Groups).length ≤ 140737488355328) := ⟨by have := HT.out; unfold queryI queryH; simp only [List.length_append] at this ⊢; omega⟩
          have HIe1 := fun W_ => Aside.mk (int_any x.Rows h9 W_)
          have HYe1 : Aside (0 < (intV x.Rows).length) := ⟨(intV_len _).1⟩
          have HLe1 : Aside ((bs ++ queryI x ++ x.Aggs.flatMap aggV ++ intV x.Groups).length + (intV x.Rows).length ≤ 140737488355328) := ⟨by have := HT.out; unfold queryI queryH; simp only [List.length_append] at this ⊢; omega⟩
          clear h8 h9
          go_wp2_with (first
            | (refine wpList_append_bb rfl _ _ rfl (by rfl) (by rfl) HPe1.out HQe1.out HYe1.out HLe1.out ?_; intro Ae1_ ne1_ ce1_ we1 hS; have f12 : we1.cell? ⟨W.heap.size, 12, none⟩ = some (.int .i64 x.Rows) := (hS.cell 12).trans rfl; have HS := Aside.mk hS; have HTe2 : Aside True := ⟨trivial⟩; clear hS HPe1 HQe1)
            | (have _t := HTe1; clear _t HTe1; go_at_call 58; refine (HIe1 _).out.mono ?_; rintro e we1a ⟨Be1_, me1_, de1_, rfl, hY, hbw⟩; have HPe1 := Aside.mk (HS.out.call hbw); have HQe1 := Aside.mk hY; clear hY hbw)
            | (refine wpList_append_bb rfl _ _ rfl (by rfl) (by rfl) HPe0.out HQe0.out HYe0.out HLe0.out ?_; intro Ae0_ ne0_ ce0_ we0 hS; have f12 : we0.cell? ⟨W.heap.size, 12, none⟩ = some (.int .i64 x.Rows) := (hS.cell 12).trans rfl; have HS := Aside.mk hS; have HTe1 : Aside True := ⟨trivial⟩; clear hS HPe0 HQe0)
            | (have _t := HTe0; clear _t HTe0; go_at_call 58; refine (HIe0 _).out.mono ?_; rintro e we0a ⟨Be0_, me0_, de0_, rfl, hY, hbw⟩; have HPe0 := Aside.mk (HS.out.call hbw); have HQe0 := Aside.mk hY; clear hY hbw))
          go_ret
          have := HS.out.done
          unfold queryV
          simp only [List.append_assoc] at this ⊢
          exact this
end Go.Proofs.Ytjpeaeklhcnpnaa.K
