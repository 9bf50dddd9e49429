/- gristmillref01.Put, Same and the law's same by contracts: of two messages that say one thing all is the same. No condition but that the bytes fit into memory. -/
import Derived.Test.YtjpeaeklhcnpnaaE7
import Derived.Test.YtjpeaeklhcnpnaaA1
import Derived.Laws.BytesArg
namespace Go.Proofs.Ytjpeaeklhcnpnaa.K
open Go.RowKit Go.Lib
set_option linter.unusedVariables false
set_option linter.unusedSimpArgs false
theorem put_any {W : World} {x : Msg} {cs : List Value} (hK : kMsg.K W Any x cs) (hsz : (putV x).length + 100 ≤ 140737488355328) : Calls Try.prog 37 #[.agg cs.toArray] W (PutPost x W) := by
  have hK' : kMsg.K W (fun k => k < W.heap.size) x cs := kMsg.mono (fun k h => h.2) (kMsg.lt hK)
  by_cases hd : depthV x.Query.Filter ≤ 20
  · exact put_flat hK' hd hsz
  · exact put_deep hK' hd
def PutYes (x : Msg) (W : World) (e : Ending) (w' : World) : Prop := ∃ A n c, e = .returned (.tuple #[.slice A n c, .int .i64 0]) ∧ BB w' W.heap.size (.slice A n c) (putV x) ∧ Below W.heap.size W w'
def PutNo (x : Msg) (W : World) (e : Ending) (w' : World) : Prop := ∃ A n c, e = .returned (.tuple #[.slice A n c, .int .i64 1]) ∧ Below W.heap.size W w'
theorem put_yes {W : World} {x : Msg} {cs : List Value} (hK : kMsg.K W Any x cs) (hok : putOk x = true) (hsz : (putV x).length + 100 ≤ 140737488355328) : Calls Try.prog 37 #[.agg cs.toArray] W (PutYes x W) :=
  (put_any hK hsz).mono fun e w' ⟨A, n, c, he, hO, hb⟩ => ⟨A, n, c, by rw [he, hok]; rfl, by rw [hok] at hO; exact hO, hb⟩
theorem put_no {W : World} {x : Msg} {cs : List Value} (hK : kMsg.K W Any x cs) (hok : putOk x = false) (hsz : (putV x).length + 100 ≤ 140737488355328) : Calls Try.prog 37 #[.agg cs.toArray] W (PutNo x W) :=
  (put_any hK hsz).mono fun e w' ⟨A, n, c, he, hO, hb⟩ => ⟨A, n, c, by rw [he, hok]; rfl, hb⟩
theorem und5 : Try.prog.underlying 5 = some (.int .u8) := by kernel_rfl
/-- The bytes as a text. -/
def numOf : Value → Int
  | .int _ n => n
  | _ => 0
def textOf (bs : List Value) : ByteArray := strOfNums (bs.map numOf)
set_option maxRecDepth 100000 in
theorem convert_bb {w : World} {base n c : Nat} {A : Option Addr} {bs : List Value} (h : BB w base (.slice A n c) bs) : (convert 91 9 (.slice A n c)).run Try.prog w = .ok (.string (textOf bs)) w := by
  have hmap : (bs.map numOf).map (Value.int .u8) = bs := by
    rw [List.map_map]
    conv => rhs; rw [← List.map_id bs]
    apply List.map_congr_left
    intro u hu
    obtain ⟨k, rfl⟩ := h.one u hu
    rfl
  have hn := h.len
  rcases h.row.2 with ⟨e, h0⟩ | ⟨g, cap, cur, e, _, hgb, hc1, hc2, hc3, ht⟩
  · injection e with e1 e2 e3
    subst e1 e2 e3
    obtain rfl : bs = [] := List.eq_nil_of_length_eq_zero (by omega)
    exact run_convert_bytes_nil (P := Try.prog) w 91 5 und91 und5 0 0 9 und9
  · injection e with e1 e2 e3
    subst e1 e2 e3
    refine run_convert_bytes_arg (P := Try.prog) w 91 5 und91 und5 g 0 bs.length _ (bs.map numOf) (List.length_map _) (fun i hi => ?_) 9 und9
    have h1 := h.row.cells (g := g) rfl i
    have h2 : bs[i]? = some (.int .u8 ((bs.map numOf).getD i 0)) := by
      obtain ⟨k, hk⟩ := h.one bs[i] (List.getElem_mem hi)
      rw [List.getElem?_eq_getElem hi, List.getD_eq_getElem?_getD, List.getElem?_map, List.getElem?_eq_getElem hi, hk]
      rfl
    have h3 := h1 _ h2
    rw [Addr.add_mid, Nat.zero_add] at h3
    rw [Nat.zero_add]
    exact h3
/-- Two boxed messages that say one thing. -/
structure Pair2 (W w : World) (cs cs2 : List Value) : Prop where
  b1 : w.heap[W.heap.size]? = some (.cells cs.toArray 54 (0, 0))
  b2 : w.heap[W.heap.size + 1]? = some (.cells cs2.toArray 54 (0, 0))
  below : Below W.heap.size W w
theorem Pair2.start (W : World) (cs cs2 : List Value) : Pair2 W ((W.alloc (.cells cs.toArray 54)).alloc (.cells cs2.toArray 54)) cs cs2 := by
  refine ⟨blk_alloc (blk_new W _) _, ?_, below_alloc (below_alloc (Below.refl _ _) _) _⟩
  have := blk_new (W.alloc (.cells cs.toArray 54)) (.cells cs2.toArray 54)
  rw [World.size_alloc] at this
  exact this
theorem Pair2.call {W w w' : World} {cs cs2 : List Value} (h : Pair2 W w cs cs2) (hb : Below w.heap.size w w') : Pair2 W w' cs cs2 := ⟨(hb.block _ (blk_lt h.b1)).trans h.b1, (hb.block _ (blk_lt h.b2)).trans h.b2, below_self h.below hb⟩
theorem blk_range {w : World} {g : Nat} {t : TypeId} {cs : List Value} (h : w.heap[g]? = some (.cells cs.toArray t (0, 0))) : w.rangeAt g 0 cs := fun j u hu => by
  rw [Nat.zero_add, blk_cell h]
  simpa using hu
set_option maxHeartbeats 8000000 in
set_option maxRecDepth 100000 in
theorem sameRef_any {W : World} {x : Msg} {cs cs2 : List Value} (hK : kMsg.K W Any x cs) (hK2 : kMsg.K W Any x cs2) (hok : putOk x = true) (hsz : (putV x).length + 100 ≤ 140737488355328) :
    Calls Try.prog 38 #[.agg cs.toArray, .agg cs2.toArray] W fun e w' => e = .returned (.bool true) ∧ Below W.heap.size W w' := by
  have HB := Aside.mk (Pair2.start W cs cs2)
  have HL := Aside.mk (kMsg.len hK)
  have HL2 := Aside.mk (kMsg.len hK2)
  have HP : ∀ w, Aside (Below W.heap.size W w) → Aside (Calls Try.prog 37 #[.agg cs.toArray] w (PutYes x w)) := fun w hb => ⟨put_yes (Kd.below hK hb.out) hok hsz⟩
  have HP2 : ∀ w, Aside (Below W.heap.size W w) → Aside (Calls Try.prog 37 #[.agg cs2.toArray] w (PutYes x w)) := fun w hb => ⟨put_yes (Kd.below hK2 hb.out) hok hsz⟩
  have HT0 : Aside True := ⟨trivial⟩
  clear hK hK2 hok hsz
  go_enter Try.func38, Try.ntmps38
  go_wp2_with (first
    | (have _t := HT1; go_at_call 37; refine (HP2 _ ⟨HB.out.below⟩).out.mono ?_; rintro e w2 ⟨A2, n2, c2, rfl, hO2, hb2⟩; have HO2 := Aside.mk hO2; have HO1 := Aside.mk (HO.out.kept hb2); have HB := Aside.mk (HB.out.call hb2); have hv1 := convert_bb HO1.out; have hv2 := convert_bb HO2.out; clear hO2 hb2 HT1)
    | (have _t := HT0; go_at_call 37; refine (HP _ ⟨HB.out.below⟩).out.mono ?_; rintro e w1 ⟨A1, n1, c1, rfl, hO, hb1⟩; have HO := Aside.mk hO; have HB := Aside.mk (HB.out.call hb1); have HT1 : Aside True := ⟨trivial⟩; clear hO hb1 HT0)
    | (refine wpList_load_mid rfl 54 (.tmp 2) (by rfl) W.heap.size 0 (by rfl) cs _ (blk_range HB.out.b1) Try.underlying54 rfl (j54 HL.out) ?_)
    | (refine wpList_load_mid rfl 54 (.tmp 3) (by rfl) (W.heap.size + 1) 0 (by rfl) cs2 _ (blk_range HB.out.b2) Try.underlying54 rfl (j54 HL2.out) ?_))
  go_ret
  exact ⟨by simp, HB.out.below⟩
set_option maxHeartbeats 8000000 in
set_option maxRecDepth 100000 in
theorem same_any {W : World} {x : Msg} {cs cs2 : List Value} (hK : kMsg.K W Any x cs) (hK2 : kMsg.K W Any x cs2) (hsz : (putV x).length + 100 ≤ 140737488355328) :
    Calls Try.prog 21 #[.agg cs.toArray, .agg cs2.toArray] W fun e w' => e = .returned (.bool true) ∧ Below W.heap.size W w' := by
  have HB := Aside.mk (Pair2.start W cs cs2)
  have HL := Aside.mk (kMsg.len hK)
  have HL2 := Aside.mk (kMsg.len hK2)
  have HF := Aside.mk (And.intro (kMsg_first hK) (kMsg_first hK2))
  cases hok : putOk x with
  | false =>
    have HP2 : ∀ w, Aside (Below W.heap.size W w) → Aside (Calls Try.prog 37 #[.agg cs2.toArray] w (PutNo x w)) := fun w hb => ⟨put_no (Kd.below hK2 hb.out) hok hsz⟩
    clear hK hK2 hok hsz
    go_enter Try.func21, Try.ntmps21
    go_wp2_with (first
      | (go_at_call 37; refine (HP2 _ ⟨HB.out.below⟩).out.mono ?_; rintro e w1 ⟨A1, n1, c1, rfl, hb1⟩; have HB := Aside.mk (HB.out.call hb1); have p0 : w1.cell? ⟨W.heap.size, 0, none⟩ = some (.int .i64 x.Kind) := (blk_range HB.out.b1) 0 _ HF.out.1.1; have p3 : w1.cell? ⟨W.heap.size, 3, none⟩ = some (.int .u64 x.Id) := (blk_range HB.out.b1) 3 _ HF.out.1.2.1; have p4 : w1.cell? ⟨W.heap.size, 4, none⟩ = some (.int .u64 x.Ask) := (blk_range HB.out.b1) 4 _ HF.out.1.2.2; have q0 : w1.cell? ⟨W.heap.size + 1, 0, none⟩ = some (.int .i64 x.Kind) := (blk_range HB.out.b2) 0 _ HF.out.2.1; have q3 : w1.cell? ⟨W.heap.size + 1, 3, none⟩ = some (.int .u64 x.Id) := (blk_range HB.out.b2) 3 _ HF.out.2.2.1; have q4 : w1.cell? ⟨W.heap.size + 1, 4, none⟩ = some (.int .u64 x.Ask) := (blk_range HB.out.b2) 4 _ HF.out.2.2.2; clear hb1)
      | (refine wpList_load_mid rfl 54 (.tmp 3) (by rfl) (W.heap.size + 1) 0 (by rfl) cs2 _ (blk_range HB.out.b2) Try.underlying54 rfl (j54 HL2.out) ?_))
    go_ret
    exact ⟨by simp, HB.out.below⟩
  | true =>
    have HS : ∀ w, Aside (Below W.heap.size W w) → Aside (Calls Try.prog 38 #[.agg cs.toArray, .agg cs2.toArray] w fun e w' => e = .returned (.bool true) ∧ Below w.heap.size w w') := fun w hb => ⟨sameRef_any (Kd.below hK hb.out) (Kd.below hK2 hb.out) hok hsz⟩
    have HP2 : ∀ w, Aside (Below W.heap.size W w) → Aside (Calls Try.prog 37 #[.agg cs2.toArray] w (PutYes x w)) := fun w hb => ⟨put_yes (Kd.below hK2 hb.out) hok hsz⟩
    clear hK hK2 hok hsz
    go_enter Try.func21, Try.ntmps21
    go_wp2_with (first
      | (go_at_call 38; refine (HS _ ⟨HB.out.below⟩).out.mono ?_; rintro e w2 ⟨rfl, hb2⟩; have HB := Aside.mk (HB.out.call hb2); clear hb2)
      | (go_at_call 37; refine (HP2 _ ⟨HB.out.below⟩).out.mono ?_; rintro e w1 ⟨A1, n1, c1, rfl, _, hb1⟩; have HB := Aside.mk (HB.out.call hb1); clear hb1)
      | (refine wpList_load_mid rfl 54 (.tmp 3) (by rfl) (W.heap.size + 1) 0 (by rfl) cs2 _ (blk_range HB.out.b2) Try.underlying54 rfl (j54 HL2.out) ?_)
      | (refine wpList_load_mid rfl 54 (.tmp 2) (by rfl) W.heap.size 0 (by rfl) cs _ (blk_range HB.out.b1) Try.underlying54 rfl (j54 HL.out) ?_))
    go_ret
    exact ⟨rfl, HB.out.below⟩
end Go.Proofs.Ytjpeaeklhcnpnaa.K
