/- gristmillref01.filter by a contract. No condition but that the bytes fit into memory. -/
import Derived.Test.YtjpeaeklhcnpnaaE3
namespace Go.Proofs.Ytjpeaeklhcnpnaa.K
open Go.RowKit Go.Lib
set_option linter.unusedVariables false
set_option linter.unusedSimpArgs false
/-- The bytes of a filter ahead of its kids'. -/
def filterH (x : Filter) : List Value := intV x.Kind ++ intV x.Dim ++ textsV x.Texts ++ intV x.Lo ++ intV x.Hi ++ uintV x.Kids.length
def filterV (x : Filter) : List Value := filterH x ++ x.Kids.attach.flatMap fun y => filterV y.1
  termination_by SizeOf.sizeOf x
  decreasing_by
    have h1 := List.sizeOf_lt_of_mem y.2
    have h2 : SizeOf.sizeOf x.Kids < SizeOf.sizeOf x := by cases x; simp only [Filter.mk.sizeOf_spec]; omega
    omega
theorem filterV_eq (x : Filter) : filterV x = filterH x ++ x.Kids.flatMap filterV := by
  rw [filterV]
  congr 1
  conv => rhs; rw [← List.attach_map_subtype_val x.Kids, List.flatMap_map]
theorem flat_step {α : Type} (f : α → List Value) (l : List α) (i : Nat) (hi : i < l.length) : (l.take (i + 1)).flatMap f = (l.take i).flatMap f ++ f l[i] := by
  rw [List.take_add_one, List.getElem?_eq_getElem hi, List.flatMap_append]
  simp
/-- A filter's cells. -/
abbrev filterC (x : Filter) (A2 A5 : Option Addr) (c2 c5 : Nat) : Array Value := #[.int .i64 x.Kind, .int .i64 x.Dim, .slice A2 x.Texts.length c2, .int .i64 x.Lo, .int .i64 x.Hi, .slice A5 x.Kids.length c5]
def FilterAny (m : Nat) : Prop := ∀ (x : Filter), SizeOf.sizeOf x ≤ m → ∀ (W : World) (base n0 c0 : Nat) (A0 : Option Addr) (bs cs : List Value), BB W base (.slice A0 n0 c0) bs → base ≤ W.heap.size → kFilter.K W (fun k => k < base) x cs → (bs ++ filterV x).length + 100 ≤ 140737488355328 →
    Calls Try.prog 76 #[.slice A0 n0 c0, .agg cs.toArray] W (Wrote base W (.slice A0 n0 c0) (bs ++ filterV x))
set_option maxHeartbeats 8000000 in
set_option maxRecDepth 100000 in
theorem filter_step (m : Nat) (ih : ∀ j, j < m → FilterAny j) : FilterAny m := by
  intro x hx W base n0 c0 A0 bs cs hO hb hK hsz
  obtain ⟨A2, c2, A5, c5, rfl, h1, h2, ⟨_, _, hC2⟩, h3, h4, ⟨_, _, hC5⟩⟩ := kFilter_open hK
  have HV := Aside.mk (fun k (hk : (Value.slice A0 n0 c0).ownBlock = some k) => (hO.lt k hk).1)
  have HS := Aside.mk (BS.boxed hO hb (.cells (filterC x A2 A5 c2 c5) 40))
  have f0 : (W.alloc (.cells (filterC x A2 A5 c2 c5) 40)).cell? ⟨W.heap.size, 0, none⟩ = some (.int .i64 x.Kind) := (HS.out.cell 0).trans rfl
  have HEQ := Aside.mk (filterV_eq x)
  have HSZ0 : Aside ((bs ++ filterH x).length + (x.Kids.flatMap filterV).length + 100 ≤ 140737488355328) := ⟨by rw [HEQ.out] at hsz; simp only [List.length_append] at hsz ⊢; omega⟩
  have HSZ : Aside ((bs ++ intV x.Kind ++ intV x.Dim ++ textsV x.Texts ++ intV x.Lo ++ intV x.Hi ++ uintV x.Kids.length).length + 100 ≤ 140737488355328) := ⟨by have := HSZ0.out; unfold filterH at this; simp only [List.length_append] at this ⊢; omega⟩
  have HTL : Aside ((bs ++ intV x.Kind ++ intV x.Dim).length + (textsV x.Texts).length + 100 ≤ 140737488355328) := ⟨by have := HSZ.out; simp only [List.length_append] at this ⊢; omega⟩
  have HC2 := Aside.mk hC2
  have HC5 := Aside.mk hC5
  have hkl : x.Kids.length ≤ 9223372036854775807 := hC5.2.1
  have hw : IntKind.u64.wrap (x.Kids.length : Int) = x.Kids.length := by rw [IntKind.wrap_u64]; omega
  have HIH : Aside (∀ i (hi : i < x.Kids.length), FilterAny (SizeOf.sizeOf x.Kids[i])) := ⟨fun i hi => ih _ (Nat.lt_of_lt_of_le (kid_lt hi) hx)⟩
  have HT0 : Aside True := ⟨trivial⟩
  have HI0 := fun W_ => Aside.mk (int_any x.Kind h1 W_)
  have HY0 : Aside (0 < (intV x.Kind).length) := ⟨(intV_len _).1⟩
  have HL0 : Aside ((bs).length + (intV x.Kind).length ≤ 140737488355328) := ⟨by have := HSZ.out; simp only [List.length_append] at this ⊢; omega⟩
  have HI1 := fun W_ => Aside.mk (int_any x.Dim h2 W_)
  have HY1 : Aside (0 < (intV x.Dim).length) := ⟨(intV_len _).1⟩
  have HL1 : Aside ((bs ++ intV x.Kind).length + (intV x.Dim).length ≤ 140737488355328) := ⟨by have := HSZ.out; simp only [List.length_append] at this ⊢; omega⟩
  have HI3 := fun W_ => Aside.mk (int_any x.Lo h3 W_)
  have HY3 : Aside (0 < (intV x.Lo).length) := ⟨(intV_len _).1⟩
  have HL3 : Aside ((bs ++ intV x.Kind ++ intV x.Dim ++ textsV x.Texts).length + (intV x.Lo).length ≤ 140737488355328) := ⟨by have := HSZ.out; simp only [List.length_append] at this ⊢; omega⟩
  have HI4 := fun W_ => Aside.mk (int_any x.Hi h4 W_)
  have HY4 : Aside (0 < (intV x.Hi).length) := ⟨(intV_len _).1⟩
  have HL4 : Aside ((bs ++ intV x.Kind ++ intV x.Dim ++ textsV x.Texts ++ intV x.Lo).length + (intV x.Hi).length ≤ 140737488355328) := ⟨by have := HSZ.out; simp only [List.length_append] at this ⊢; omega⟩
  have HI5 := fun W_ => Aside.mk (uint_any x.Kids.length (by omega) W_)
  have HY5 : Aside (0 < (uintV x.Kids.length).length) := ⟨(uintV_len _).1⟩
  have HL5 : Aside ((bs ++ intV x.Kind ++ intV x.Dim ++ textsV x.Texts ++ intV x.Lo ++ intV x.Hi).length + (uintV x.Kids.length).length ≤ 140737488355328) := ⟨by have := HSZ.out; simp only [List.length_append] at this ⊢; omega⟩
  clear hO hsz hK h1 h2 h3 h4 hC2 hC5 ih hx
  unfold filterC at *
  go_enter Try.func76, Try.ntmps76
  go_wp2_with (first
    | (refine wpList_append_bb rfl _ _ rfl (by rfl) (by rfl) HP5.out HQ5.out HY5.out HL5.out ?_; intro A5_ n5_ c5_ w5 hS; have f1 : w5.cell? ⟨W.heap.size, 1, none⟩ = some (.int .i64 x.Dim) := (hS.cell 1).trans rfl; have f2 : w5.cell? ⟨W.heap.size, 2, none⟩ = some (.slice A2 x.Texts.length c2) := (hS.cell 2).trans rfl; have f3 : w5.cell? ⟨W.heap.size, 3, none⟩ = some (.int .i64 x.Lo) := (hS.cell 3).trans rfl; have f4 : w5.cell? ⟨W.heap.size, 4, none⟩ = some (.int .i64 x.Hi) := (hS.cell 4).trans rfl; have f5 : w5.cell? ⟨W.heap.size, 5, none⟩ = some (.slice A5 x.Kids.length c5) := (hS.cell 5).trans rfl; have HS := Aside.mk hS; have HT6 : Aside True := ⟨trivial⟩; clear hS HP5 HQ5)
    | (have _t := HT5; clear _t HT5; go_at_call 59; refine (HI5 _).out.mono ?_; rintro e w5a ⟨B5_, m5_, d5_, rfl, hY, hbw⟩; have HP5 := Aside.mk (HS.out.call hbw); have HQ5 := Aside.mk hY; clear hY hbw)
    | (refine wpList_append_bb rfl _ _ rfl (by rfl) (by rfl) HP4.out HQ4.out HY4.out HL4.out ?_; intro A4_ n4_ c4_ w4 hS; have f1 : w4.cell? ⟨W.heap.size, 1, none⟩ = some (.int .i64 x.Dim) := (hS.cell 1).trans rfl; have f2 : w4.cell? ⟨W.heap.size, 2, none⟩ = some (.slice A2 x.Texts.length c2) := (hS.cell 2).trans rfl; have f3 : w4.cell? ⟨W.heap.size, 3, none⟩ = some (.int .i64 x.Lo) := (hS.cell 3).trans rfl; have f4 : w4.cell? ⟨W.heap.size, 4, none⟩ = some (.int .i64 x.Hi) := (hS.cell 4).trans rfl; have f5 : w4.cell? ⟨W.heap.size, 5, none⟩ = some (.slice A5 x.Kids.length c5) := (hS.cell 5).trans rfl; have HS := Aside.mk hS; have HT5 : Aside True := ⟨trivial⟩; clear hS HP4 HQ4)
    | (have _t := HT4; clear _t HT4; go_at_call 58; refine (HI4 _).out.mono ?_; rintro e w4a ⟨B4_, m4_, d4_, rfl, hY, hbw⟩; have HP4 := Aside.mk (HS.out.call hbw); have HQ4 := Aside.mk hY; clear hY hbw)
    | (refine wpList_append_bb rfl _ _ rfl (by rfl) (by rfl) HP3.out HQ3.out HY3.out HL3.out ?_; intro A3_ n3_ c3_ w3 hS; have f1 : w3.cell? ⟨W.heap.size, 1, none⟩ = some (.int .i64 x.Dim) := (hS.cell 1).trans rfl; have f2 : w3.cell? ⟨W.heap.size, 2, none⟩ = some (.slice A2 x.Texts.length c2) := (hS.cell 2).trans rfl; have f3 : w3.cell? ⟨W.heap.size, 3, none⟩ = some (.int .i64 x.Lo) := (hS.cell 3).trans rfl; have f4 : w3.cell? ⟨W.heap.size, 4, none⟩ = some (.int .i64 x.Hi) := (hS.cell 4).trans rfl; have f5 : w3.cell? ⟨W.heap.size, 5, none⟩ = some (.slice A5 x.Kids.length c5) := (hS.cell 5).trans rfl; have HS := Aside.mk hS; have HT4 : Aside True := ⟨trivial⟩; clear hS HP3 HQ3)
    | (have _t := HT3; clear _t HT3; go_at_call 58; refine (HI3 _).out.mono ?_; rintro e w3a ⟨B3_, m3_, d3_, rfl, hY, hbw⟩; have HP3 := Aside.mk (HS.out.call hbw); have HQ3 := Aside.mk hY; clear hY hbw)
    | (have _t := HT2; clear _t HT2; go_at_call 60; refine (texts_any HS.out.own HS.out.base (Kd.C_move (fun k hk hl => HS.out.keeps HV.out k hk hl) HC2.out) HTL.out).mono ?_; rintro e w2 ⟨A2_, n2_, c2_, rfl, hO_, hc_, hs_⟩; have hS := HS.out.wrote hO_ hc_ hs_; have f1 : w2.cell? ⟨W.heap.size, 1, none⟩ = some (.int .i64 x.Dim) := (hS.cell 1).trans rfl; have f2 : w2.cell? ⟨W.heap.size, 2, none⟩ = some (.slice A2 x.Texts.length c2) := (hS.cell 2).trans rfl; have f3 : w2.cell? ⟨W.heap.size, 3, none⟩ = some (.int .i64 x.Lo) := (hS.cell 3).trans rfl; have f4 : w2.cell? ⟨W.heap.size, 4, none⟩ = some (.int .i64 x.Hi) := (hS.cell 4).trans rfl; have f5 : w2.cell? ⟨W.heap.size, 5, none⟩ = some (.slice A5 x.Kids.length c5) := (hS.cell 5).trans rfl; have HS := Aside.mk hS; have HT3 : Aside True := ⟨trivial⟩; clear hS hO_ hc_ hs_)
    | (refine wpList_append_bb rfl _ _ rfl (by rfl) (by rfl) HP1.out HQ1.out HY1.out HL1.out ?_; intro A1_ n1_ c1_ w1 hS; have f1 : w1.cell? ⟨W.heap.size, 1, none⟩ = some (.int .i64 x.Dim) := (hS.cell 1).trans rfl; have f2 : w1.cell? ⟨W.heap.size, 2, none⟩ = some (.slice A2 x.Texts.length c2) := (hS.cell 2).trans rfl; have f3 : w1.cell? ⟨W.heap.size, 3, none⟩ = some (.int .i64 x.Lo) := (hS.cell 3).trans rfl; have f4 : w1.cell? ⟨W.heap.size, 4, none⟩ = some (.int .i64 x.Hi) := (hS.cell 4).trans rfl; have f5 : w1.cell? ⟨W.heap.size, 5, none⟩ = some (.slice A5 x.Kids.length c5) := (hS.cell 5).trans rfl; have HS := Aside.mk hS; have HT2 : Aside True := ⟨trivial⟩; clear hS HP1 HQ1)
    | (have _t := HT1; clear _t HT1; go_at_call 58; refine (HI1 _).out.mono ?_; rintro e w1a ⟨B1_, m1_, d1_, rfl, hY, hbw⟩; have HP1 := Aside.mk (HS.out.call hbw); have HQ1 := Aside.mk hY; clear hY hbw)
    | (refine wpList_append_bb rfl _ _ rfl (by rfl) (by rfl) HP0.out HQ0.out HY0.out HL0.out ?_; intro A0_ n0_ c0_ w0 hS; have f1 : w0.cell? ⟨W.heap.size, 1, none⟩ = some (.int .i64 x.Dim) := (hS.cell 1).trans rfl; have f2 : w0.cell? ⟨W.heap.size, 2, none⟩ = some (.slice A2 x.Texts.length c2) := (hS.cell 2).trans rfl; have f3 : w0.cell? ⟨W.heap.size, 3, none⟩ = some (.int .i64 x.Lo) := (hS.cell 3).trans rfl; have f4 : w0.cell? ⟨W.heap.size, 4, none⟩ = some (.int .i64 x.Hi) := (hS.cell 4).trans rfl; have f5 : w0.cell? ⟨W.heap.size, 5, none⟩ = some (.slice A5 x.Kids.length c5) := (hS.cell 5).trans rfl; have HS := Aside.mk hS; have HT1 : Aside True := ⟨trivial⟩; clear hS HP0 HQ0)
    | (have _t := HT0; clear _t HT0; go_at_call 58; refine (HI0 _).out.mono ?_; rintro e w0a ⟨B0_, m0_, d0_, rfl, hY, hbw⟩; have HP0 := Aside.mk (HS.out.call hbw); have HQ0 := Aside.mk hY; clear hY hbw))
  have HS0 : Aside (BS W w5 base (.slice A0 n0 c0) (.slice A5_ n5_ c5_) (bs ++ filterH x) (some W.heap.size) (.cells (filterC x A2 A5 c2 c5) 40)) := ⟨by have := HS.out; unfold filterH; simp only [List.append_assoc] at this ⊢; exact this⟩
  clear HSZ HTL
  go_loopw [0, 5] (fun v0 v5 wr => ∃ (i : Nat) (A : Option Addr) (n c : Nat), i ≤ x.Kids.length ∧ v0 = .slice A n c ∧ v5 = .int .i64 i ∧ Aside (BS W wr base (.slice A0 n0 c0) (.slice A n c) (bs ++ filterH x ++ (x.Kids.take i).flatMap filterV) (some W.heap.size) (.cells (filterC x A2 A5 c2 c5) 40))) (fun _ v5 _ => x.Kids.length - (intOf v5).toNat)
  case atStart => exact ⟨0, A5_, n5_, c5_, Nat.zero_le _, rfl, rfl, ⟨by have := HS0.out; simpa using this⟩⟩
  case round =>
    obtain ⟨i, A, n, c, hi, rfl, rfl, HR⟩ := hrel
    have k5 : wr.cell? ⟨W.heap.size, 5, none⟩ = some (.slice A5 x.Kids.length c5) := (HR.out.cell 5).trans rfl
    by_cases hlt : i < x.Kids.length
    · obtain ⟨ad, B2, d2, B5, d5, rfl, _, _, l0, l1, l2, l3, l4, l5, hK⟩ := kFilter_at (Kd.C_move (fun k hk hl => HR.out.keeps HV.out k hk hl) HC5.out) (Below.refl _ _) hlt
      have hst := flat_step filterV x.Kids i hlt
      have hle := flat_take_len filterV x.Kids (i + 1)
      have HCALL := Aside.mk (HIH.out i hlt _ (Nat.le_refl _) wr base n c A (bs ++ filterH x ++ (x.Kids.take i).flatMap filterV) _ HR.out.own HR.out.base hK (by rw [hst, List.length_append] at hle; have := HSZ0.out; simp only [List.length_append] at this ⊢; omega))
      have HST := Aside.mk hst
      clear hst hle hK
      generalize hy : x.Kids[i] = y at *
      clear hy
      go_wp2_with (go_at_call 76; refine HCALL.out.mono ?_; rintro e w6 ⟨A6, n6, c6, rfl, hO_, hc_, hs_⟩; have HR6 := Aside.mk (HR.out.wrote hO_ hc_ hs_); clear hO_ hc_ hs_)
      go_round
      case rel => exact ⟨i + 1, A6, n6, c6, hlt, rfl, rfl, ⟨by rw [HST.out, ← List.append_assoc]; exact HR6.out⟩⟩
      case measure => simp only [intOf]; omega
    · obtain rfl : i = x.Kids.length := by omega
      have HE : Aside (Wrote base W (.slice A0 n0 c0) (bs ++ filterV x) (.returned (.slice A n c)) wr) := ⟨by
        have := HR.out.done
        rw [List.take_length, List.append_assoc] at this
        rw [HEQ.out]
        exact this⟩
      go_wp2
      go_ret
      exact HE.out
theorem filter_all (m : Nat) : FilterAny m := by
  induction m using Nat.strongRecOn with
  | ind m ih => exact filter_step m ih
theorem filterB_any {W : World} {base n0 c0 : Nat} {A0 : Option Addr} {bs cs : List Value} {x : Filter} (hO : BB W base (.slice A0 n0 c0) bs) (hb : base ≤ W.heap.size) (hK : kFilter.K W (fun k => k < base) x cs) (hsz : (bs ++ filterV x).length + 100 ≤ 140737488355328) :
    Calls Try.prog 76 #[.slice A0 n0 c0, .agg cs.toArray] W (Wrote base W (.slice A0 n0 c0) (bs ++ filterV x)) := filter_all _ x (Nat.le_refl _) W base n0 c0 A0 bs cs hO hb hK hsz
end Go.Proofs.Ytjpeaeklhcnpnaa.K
