/- gristmillref01's texts, span and seg by contracts. No condition but that the bytes fit into memory. -/
import Derived.Test.YtjpeaeklhcnpnaaE2
namespace Go.Proofs.Ytjpeaeklhcnpnaa.K
open Go.RowKit Go.Lib
set_option linter.unusedVariables false
set_option linter.unusedSimpArgs false
def textsL (l : List ByteArray) : List Value := l.flatMap textV
def textsV (l : List ByteArray) : List Value := uintV l.length ++ textsL l
theorem textsL_step (l : List ByteArray) (i : Nat) (hi : i < l.length) : textsL (l.take (i + 1)) = textsL (l.take i) ++ textV l[i] := by
  unfold textsL
  rw [List.take_add_one, List.getElem?_eq_getElem hi, List.flatMap_append]
  simp
theorem flat_take_len {α : Type} (f : α → List Value) (l : List α) (i : Nat) : ((l.take i).flatMap f).length ≤ (l.flatMap f).length := by
  conv => rhs; rw [← List.take_append_drop i l, List.flatMap_append, List.length_append]
  omega
/-- An element of a row of one cell each. -/
theorem cell1 {α : Type} {d : Kd α} (hd : d.sz = 1) {w wr : World} {F : Nat → Prop} {A : Option Addr} {n : Nat} {xs : List α} (h : d.C w F A n xs) (hb : ∀ k, F k → k < w.heap.size → wr.heap[k]? = w.heap[k]?) {i : Nat} (hi : i < xs.length) :
    ∃ ad c, A = some ad ∧ d.K w F xs[i] c ∧ ∀ u, c[0]? = some u → wr.cell? (ad.add i) = some u := by
  obtain ⟨ad, c, e, hF, hl, hK, hc⟩ := Kd.C_get h hi
  refine ⟨ad, c, e, hK, fun u hu => ?_⟩
  have h1 := hc 0 u hu
  rw [hd, Nat.mul_one, Nat.add_zero] at h1
  rw [World.cell?_of_block (w := w) (by rw [Kd.add_block]; exact hb _ hF hl)]
  exact h1
theorem BS.keeps {w0 w : World} {base : Nat} {v0 v : Value} {bs : List Value} {gb : Option Nat} {obj : Obj} (h : BS w0 w base v0 v bs gb obj) (hv : ∀ k, v0.ownBlock = some k → base ≤ k) : ∀ k, k < base → k < w0.heap.size → w.heap[k]? = w0.heap[k]? := fun k hk hl => h.chg.block k hl (fun e => by have := hv k e; omega)
set_option maxHeartbeats 4000000 in
set_option maxRecDepth 100000 in
theorem texts_any {W : World} {base n0 c0 c1 : Nat} {A0 A1 : Option Addr} {bs : List Value} {l : List ByteArray} (hO : BB W base (.slice A0 n0 c0) bs) (hb : base ≤ W.heap.size) (hC : Kd.string.C W (fun k => k < base) A1 l.length l) (hsz : bs.length + (textsV l).length + 100 ≤ 140737488355328) :
    Calls Try.prog 60 #[.slice A0 n0 c0, .slice A1 l.length c1] W (Wrote base W (.slice A0 n0 c0) (bs ++ textsV l)) := by
  have H0 := Aside.mk (BS.start hO hb (.cells #[] 5))
  have HV := Aside.mk (fun k (hk : (Value.slice A0 n0 c0).ownBlock = some k) => (hO.lt k hk).1)
  have hn : l.length ≤ 9223372036854775807 := hC.2.1
  have HU := fun W' => Aside.mk (uint_any l.length (by omega) W')
  have hul := uintV_len l.length
  have HSZ : Aside (bs.length + (uintV l.length).length + (textsL l).length + 100 ≤ 140737488355328) := ⟨by unfold textsV at hsz; rw [List.length_append] at hsz; omega⟩
  have HL1 : Aside (bs.length + (uintV l.length).length ≤ 140737488355328) := ⟨by have := HSZ.out; omega⟩
  have HY0 : Aside (0 < (uintV l.length).length) := ⟨hul.1⟩
  have HC := Aside.mk hC
  have h1 : IntKind.u64.wrap (l.length : Int) = l.length := by rw [IntKind.wrap_u64]; omega
  clear hO hC hsz hul
  go_enter Try.func60, Try.ntmps60
  go_wp2_with (first
    | (go_at_call 59; refine (HU _).out.mono ?_; rintro e w1 ⟨B, m, c2, rfl, hY, hbw⟩; have HP := Aside.mk (H0.out.call hbw); have HY := Aside.mk hY; clear hY hbw)
    | (refine wpList_append_bb rfl _ _ rfl (by rfl) (by rfl) HP.out HY.out HY0.out HL1.out ?_; intro A' n' c' w2 hS; have HS0 := Aside.mk hS; clear hS HP HY))
  go_loopw [0, 5] (fun v0 v5 wr => ∃ (i : Nat) (A : Option Addr) (n c : Nat), i ≤ l.length ∧ v0 = .slice A n c ∧ v5 = .int .i64 i ∧ Aside (BS W wr base (.slice A0 n0 c0) (.slice A n c) (bs ++ uintV l.length ++ textsL (l.take i)) none (.cells #[] 5))) (fun _ v5 _ => l.length - (intOf v5).toNat)
  case atStart => exact ⟨0, A', n', c', Nat.zero_le _, rfl, rfl, ⟨by have := HS0.out; simpa [textsL] using this⟩⟩
  case round =>
    obtain ⟨i, A, n, c, hi, rfl, rfl, HS⟩ := hrel
    by_cases hlt : i < l.length
    · obtain ⟨ad, cc, rfl, hK, hf⟩ := cell1 (wr := wr) rfl HC.out (HS.out.keeps HV.out) hlt
      obtain ⟨rfl, hsb⟩ := hK
      have f1 : wr.cell? (ad.add i) = some (.string l[i]) := hf _ rfl
      have hstep := textsL_step l i hlt
      have hle : (textsL (l.take (i + 1))).length ≤ (textsL l).length := flat_take_len textV l (i + 1)
      have htl := textV_len l[i]
      have hL2 : Aside ((bs ++ uintV l.length ++ textsL (l.take i)).length + (textV l[i]).length ≤ 140737488355328) := ⟨by
        rw [hstep, List.length_append] at hle
        have := HSZ.out
        simp only [List.length_append]
        omega⟩
      have HT : Aside (Calls Try.prog 75 #[.string l[i]] wr (Made wr (textV l[i]))) := ⟨text_any l[i] (by
        rw [hstep, List.length_append] at hle
        have h2 : (textV l[i]).length = (uintV l[i].size).length + l[i].size := by unfold textV; rw [List.length_append, strCells_length]
        have h3 := uintV_len l[i].size
        have := HSZ.out
        omega) wr⟩
      have HST := Aside.mk hstep
      have HT0 : Aside (0 < (textV l[i]).length) := ⟨htl.1⟩
      generalize l[i] = s at f1 HT HST hL2 HT0
      clear hf hle htl hstep hsb
      go_wp2_with (first
        | (go_at_call 75; refine HT.out.mono ?_; rintro e w3 ⟨B, m, c2, rfl, hY, hbw⟩; have HP := Aside.mk (HS.out.call hbw); have HY := Aside.mk hY; clear hY hbw)
        | (refine wpList_append_bb rfl _ _ rfl (by rfl) (by rfl) HP.out HY.out HT0.out hL2.out ?_; intro A3 n3 c3 w4 hS; have HS4 := Aside.mk hS; clear hS HP HY))
      go_round
      case rel => exact ⟨i + 1, A3, n3, c3, hlt, rfl, rfl, ⟨by rw [HST.out, ← List.append_assoc]; exact HS4.out⟩⟩
      case measure => simp only [intOf]; omega
    · obtain rfl : i = l.length := by omega
      have HE : Aside (Wrote base W (.slice A0 n0 c0) (bs ++ textsV l) (.returned (.slice A n c)) wr) := ⟨by
        have := HS.out.done
        rw [List.take_length, List.append_assoc] at this
        exact this⟩
      go_wp2
      go_ret
      exact HE.out
def spanV (s : Span) : List Value := intV s.From ++ intV s.To
set_option maxHeartbeats 4000000 in
set_option maxRecDepth 100000 in
theorem span_any {W : World} {base n0 c0 : Nat} {A0 : Option Addr} {bs : List Value} {x : Span} (hO : BB W base (.slice A0 n0 c0) bs) (hb : base ≤ W.heap.size) (h1 : (Lit.int .i64 x.From).wf = true) (h2 : (Lit.int .i64 x.To).wf = true) (hsz : (bs ++ spanV x).length + 100 ≤ 140737488355328) :
    Calls Try.prog 63 #[.slice A0 n0 c0, .agg #[.int .i64 x.From, .int .i64 x.To]] W (Wrote base W (.slice A0 n0 c0) (bs ++ spanV x)) := by
  have HS := Aside.mk (BS.boxed hO hb (.cells #[.int .i64 x.From, .int .i64 x.To] 37))
  have f0 : (W.alloc (.cells #[.int .i64 x.From, .int .i64 x.To] 37)).cell? ⟨W.heap.size, 0, none⟩ = some (.int .i64 x.From) := (HS.out.cell 0).trans rfl
  have HSZ : Aside ((bs ++ intV x.From ++ intV x.To).length + 100 ≤ 140737488355328) := ⟨by unfold spanV at hsz; rw [← List.append_assoc] at hsz; exact hsz⟩
  have HT0 : Aside True := ⟨trivial⟩
  have HI0 := fun W_ => Aside.mk (int_any x.From h1 W_)
  have HY0 : Aside (0 < (intV x.From).length) := ⟨(intV_len _).1⟩
  have HL0 : Aside ((bs).length + (intV x.From).length ≤ 140737488355328) := ⟨by have := HSZ.out; simp only [List.length_append] at this ⊢; omega⟩
  have HI1 := fun W_ => Aside.mk (int_any x.To h2 W_)
  have HY1 : Aside (0 < (intV x.To).length) := ⟨(intV_len _).1⟩
  have HL1 : Aside ((bs ++ intV x.From).length + (intV x.To).length ≤ 140737488355328) := ⟨by have := HSZ.out; simp only [List.length_append] at this ⊢; omega⟩
  clear hO hsz h1 h2
  go_enter Try.func63, Try.ntmps63
  go_wp2_with (first
    | (refine wpList_append_bb rfl _ _ rfl (by rfl) (by rfl) HP1.out HQ1.out HY1.out HL1.out ?_; intro A1_ n1_ c1_ w1 hS; have f0 : w1.cell? ⟨W.heap.size, 0, none⟩ = some (.int .i64 x.From) := (hS.cell 0).trans rfl; have f1 : w1.cell? ⟨W.heap.size, 1, none⟩ = some (.int .i64 x.To) := (hS.cell 1).trans rfl; have HS := Aside.mk hS; have HT2 : Aside True := ⟨trivial⟩; clear hS HP1 HQ1)
    | (have _t := HT1; clear _t HT1; go_at_call 58; refine (HI1 _).out.mono ?_; rintro e w1a ⟨B1_, m1_, d1_, rfl, hY, hbw⟩; have HP1 := Aside.mk (HS.out.call hbw); have HQ1 := Aside.mk hY; clear hY hbw)
    | (refine wpList_append_bb rfl _ _ rfl (by rfl) (by rfl) HP0.out HQ0.out HY0.out HL0.out ?_; intro A0_ n0_ c0_ w0 hS; have f0 : w0.cell? ⟨W.heap.size, 0, none⟩ = some (.int .i64 x.From) := (hS.cell 0).trans rfl; have f1 : w0.cell? ⟨W.heap.size, 1, none⟩ = some (.int .i64 x.To) := (hS.cell 1).trans rfl; have HS := Aside.mk hS; have HT1 : Aside True := ⟨trivial⟩; clear hS HP0 HQ0)
    | (have _t := HT0; clear _t HT0; go_at_call 58; refine (HI0 _).out.mono ?_; rintro e w0a ⟨B0_, m0_, d0_, rfl, hY, hbw⟩; have HP0 := Aside.mk (HS.out.call hbw); have HQ0 := Aside.mk hY; clear hY hbw))
  go_ret
  have := HS.out.done
  rw [List.append_assoc] at this
  exact this
def segV (s : Seg) : List Value := spanV s.Span ++ intV s.Version ++ intV s.Part ++ intV s.Core
/-- A seg's cells. -/
abbrev segC (x : Seg) : Array Value := #[.int .i64 x.Span.From, .int .i64 x.Span.To, .int .i64 x.Version, .int .i64 x.Part, .int .i64 x.Core]
set_option maxHeartbeats 4000000 in
set_option maxRecDepth 100000 in
theorem seg_any {W : World} {base n0 c0 : Nat} {A0 : Option Addr} {bs : List Value} {x : Seg} (hO : BB W base (.slice A0 n0 c0) bs) (hb : base ≤ W.heap.size) (h1 : (Lit.int .i64 x.Span.From).wf = true) (h2 : (Lit.int .i64 x.Span.To).wf = true) (h3 : (Lit.int .i64 x.Version).wf = true) (h4 : (Lit.int .i64 x.Part).wf = true) (h5 : (Lit.int .i64 x.Core).wf = true) (hsz : (bs ++ segV x).length + 100 ≤ 140737488355328) :
    Calls Try.prog 62 #[.slice A0 n0 c0, .agg (segC x)] W (Wrote base W (.slice A0 n0 c0) (bs ++ segV x)) := by
  have HS := Aside.mk (BS.boxed hO hb (.cells (segC x) 46))
  have f0 : (W.alloc (.cells (segC x) 46)).cell? ⟨W.heap.size, 0, none⟩ = some (.int .i64 x.Span.From) := (HS.out.cell 0).trans rfl
  have f1 : (W.alloc (.cells (segC x) 46)).cell? ⟨W.heap.size, 1, none⟩ = some (.int .i64 x.Span.To) := (HS.out.cell 1).trans rfl
  have HSZ : Aside ((bs ++ spanV x.Span ++ intV x.Version ++ intV x.Part ++ intV x.Core).length + 100 ≤ 140737488355328) := ⟨by unfold segV at hsz; simp only [List.length_append] at hsz ⊢; omega⟩
  have HC0 : Aside ((bs ++ spanV x.Span).length + 100 ≤ 140737488355328) := ⟨by have := HSZ.out; simp only [List.length_append] at this ⊢; omega⟩
  have HW := Aside.mk (And.intro h1 h2)
  have HT0 : Aside True := ⟨trivial⟩
  have HI1 := fun W_ => Aside.mk (int_any x.Version h3 W_)
  have HY1 : Aside (0 < (intV x.Version).length) := ⟨(intV_len _).1⟩
  have HL1 : Aside ((bs ++ spanV x.Span).length + (intV x.Version).length ≤ 140737488355328) := ⟨by have := HSZ.out; simp only [List.length_append] at this ⊢; omega⟩
  have HI2 := fun W_ => Aside.mk (int_any x.Part h4 W_)
  have HY2 : Aside (0 < (intV x.Part).length) := ⟨(intV_len _).1⟩
  have HL2 : Aside ((bs ++ spanV x.Span ++ intV x.Version).length + (intV x.Part).length ≤ 140737488355328) := ⟨by have := HSZ.out; simp only [List.length_append] at this ⊢; omega⟩
  have HI3 := fun W_ => Aside.mk (int_any x.Core h5 W_)
  have HY3 : Aside (0 < (intV x.Core).length) := ⟨(intV_len _).1⟩
  have HL3 : Aside ((bs ++ spanV x.Span ++ intV x.Version ++ intV x.Part).length + (intV x.Core).length ≤ 140737488355328) := ⟨by have := HSZ.out; simp only [List.length_append] at this ⊢; omega⟩
  clear hO hsz h1 h2 h3 h4 h5
  unfold segC
  go_enter Try.func62, Try.ntmps62
  go_wp2_with (first
    | (refine wpList_append_bb rfl _ _ rfl (by rfl) (by rfl) HP3.out HQ3.out HY3.out HL3.out ?_; intro A3_ n3_ c3_ w3 hS; have f2 : w3.cell? ⟨W.heap.size, 2, none⟩ = some (.int .i64 x.Version) := (hS.cell 2).trans rfl; have f3 : w3.cell? ⟨W.heap.size, 3, none⟩ = some (.int .i64 x.Part) := (hS.cell 3).trans rfl; have f4 : w3.cell? ⟨W.heap.size, 4, none⟩ = some (.int .i64 x.Core) := (hS.cell 4).trans rfl; have HS := Aside.mk hS; have HT4 : Aside True := ⟨trivial⟩; clear hS HP3 HQ3)
    | (have _t := HT3; clear _t HT3; go_at_call 58; refine (HI3 _).out.mono ?_; rintro e w3a ⟨B3_, m3_, d3_, rfl, hY, hbw⟩; have HP3 := Aside.mk (HS.out.call hbw); have HQ3 := Aside.mk hY; clear hY hbw)
    | (refine wpList_append_bb rfl _ _ rfl (by rfl) (by rfl) HP2.out HQ2.out HY2.out HL2.out ?_; intro A2_ n2_ c2_ w2 hS; have f2 : w2.cell? ⟨W.heap.size, 2, none⟩ = some (.int .i64 x.Version) := (hS.cell 2).trans rfl; have f3 : w2.cell? ⟨W.heap.size, 3, none⟩ = some (.int .i64 x.Part) := (hS.cell 3).trans rfl; have f4 : w2.cell? ⟨W.heap.size, 4, none⟩ = some (.int .i64 x.Core) := (hS.cell 4).trans rfl; have HS := Aside.mk hS; have HT3 : Aside True := ⟨trivial⟩; clear hS HP2 HQ2)
    | (have _t := HT2; clear _t HT2; go_at_call 58; refine (HI2 _).out.mono ?_; rintro e w2a ⟨B2_, m2_, d2_, rfl, hY, hbw⟩; have HP2 := Aside.mk (HS.out.call hbw); have HQ2 := Aside.mk hY; clear hY hbw)
    | (refine wpList_append_bb rfl _ _ rfl (by rfl) (by rfl) HP1.out HQ1.out HY1.out HL1.out ?_; intro A1_ n1_ c1_ w1 hS; have f2 : w1.cell? ⟨W.heap.size, 2, none⟩ = some (.int .i64 x.Version) := (hS.cell 2).trans rfl; have f3 : w1.cell? ⟨W.heap.size, 3, none⟩ = some (.int .i64 x.Part) := (hS.cell 3).trans rfl; have f4 : w1.cell? ⟨W.heap.size, 4, none⟩ = some (.int .i64 x.Core) := (hS.cell 4).trans rfl; have HS := Aside.mk hS; have HT2 : Aside True := ⟨trivial⟩; clear hS HP1 HQ1)
    | (have _t := HT1; clear _t HT1; go_at_call 58; refine (HI1 _).out.mono ?_; rintro e w1a ⟨B1_, m1_, d1_, rfl, hY, hbw⟩; have HP1 := Aside.mk (HS.out.call hbw); have HQ1 := Aside.mk hY; clear hY hbw)
    | (have _t := HT0; clear _t HT0; go_at_call 63; refine (span_any (x := x.Span) HS.out.own HS.out.base HW.out.1 HW.out.2 HC0.out).mono ?_; rintro e w0 ⟨A0_, n0_, c0_, rfl, hO_, hc_, hs_⟩; have hS := HS.out.wrote hO_ hc_ hs_; have f2 : w0.cell? ⟨W.heap.size, 2, none⟩ = some (.int .i64 x.Version) := (hS.cell 2).trans rfl; have f3 : w0.cell? ⟨W.heap.size, 3, none⟩ = some (.int .i64 x.Part) := (hS.cell 3).trans rfl; have f4 : w0.cell? ⟨W.heap.size, 4, none⟩ = some (.int .i64 x.Core) := (hS.cell 4).trans rfl; have HS := Aside.mk hS; have HT1 : Aside True := ⟨trivial⟩; clear hS hO_ hc_ hs_))
  go_ret
  have := HS.out.done
  rw [List.append_assoc, List.append_assoc, List.append_assoc] at this
  unfold segV
  rw [List.append_assoc, List.append_assoc]
  exact this
end Go.Proofs.Ytjpeaeklhcnpnaa.K
