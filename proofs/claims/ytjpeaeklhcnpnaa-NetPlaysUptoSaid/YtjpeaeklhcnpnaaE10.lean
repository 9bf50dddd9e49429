/- Messages and scripts open with a bound on what Put writes of them. Written by a program. No condition. -/
import Derived.Test.YtjpeaeklhcnpnaaE9
import Derived.Test.YtjpeaeklhcnpnaaK0
namespace Go.Proofs.Ytjpeaeklhcnpnaa.K
open Go.RowKit Go.Proofs.Ytjpeaeklhcnpnaa.Rows
set_option linter.unusedVariables false
namespace Kd
variable {α β γ : Type}
theorem opensE_zero {P : Program} {t : TypeId} {d : Kd α} {len : α → Nat} (hc : P.cellsOf t = d.sz) : d.OpensE P t 0 len := ⟨hc, fun H enc w base spare held fuel cs x hf h => by
  obtain rfl : fuel = 0 := by omega
  simp [DataW.trod] at h⟩
theorem OpensE.le {P : Program} {t : TypeId} {d : Kd α} {N M : Nat} {len : α → Nat} (h : d.OpensE P t N len) (hM : M ≤ N) : d.OpensE P t M len := ⟨h.1, fun H enc w base spare held fuel cs x hf => h.2 H enc w base spare held fuel cs x (by omega)⟩
theorem OpensE.mono {P : Program} {t : TypeId} {d : Kd α} {N : Nat} {len len' : α → Nat} (h : d.OpensE P t N len) (hl : ∀ a, len' a ≤ len a) : d.OpensE P t N len' := ⟨h.1, fun H enc w base spare held fuel cs x hf h1 h2 => by
  obtain ⟨a, ha, hb⟩ := h.2 H enc w base spare held fuel cs x hf h1 h2
  exact ⟨a, ha, Nat.le_trans (hl a) hb⟩⟩
theorem opensE_slice_all {P : Program} {t e : TypeId} {bytes : Nat} {d : Kd α} {len : α → Nat} (ht : P.underlying t = some (.slice e)) (hc : P.cellsOf t = 1) (hb : P.bytesOf e = bytes) (hs0 : 0 < d.sz) (hd : ∀ N, d.OpensE P e N len) : ∀ N, (slice bytes d).OpensE P t N (fun xs => 11 + (xs.map len).sum)
  | 0 => opensE_zero hc
  | N + 1 => opensE_slice ht hc hb hs0 (hd N)
theorem opensE_slice_upto {P : Program} {t e : TypeId} {bytes : Nat} {d : Kd α} {len : α → Nat} (ht : P.underlying t = some (.slice e)) (hc : P.cellsOf t = 1) (hb : P.bytesOf e = bytes) (hs0 : 0 < d.sz) : ∀ {N : Nat}, d.OpensE P e N len → (slice bytes d).OpensE P t N (fun xs => 11 + (xs.map len).sum)
  | 0, _ => opensE_zero hc
  | N + 1, hd => opensE_slice ht hc hb hs0 (hd.le (Nat.le_succ N))
theorem opensE_fix {P : Program} {t : TypeId} {G : Kd α → Kd α} {sz : Nat} {len : α → Nat} {hs : ∀ n, (upto G sz n).sz = sz} (hc : P.cellsOf t = sz) (hG : ∀ (d : Kd α) N, d.sz = sz → d.OpensE P t N len → (G d).OpensE P t (N + 1) len) (N : Nat) : (fix G sz hs).OpensE P t N len := by
  have key : ∀ n, (upto G sz n).OpensE P t n len := by
    intro n
    induction n with
    | zero => exact opensE_zero (hc.trans (hs 0).symm)
    | succ n ih => exact hG _ n (hs n) ih
  exact ⟨hc, fun H enc w base spare held fuel cs x hf h hw => by
    obtain ⟨a, ha, hb⟩ := (key N).2 H enc w base spare held fuel cs x hf h hw
    exact ⟨a, ⟨N, ha⟩, hb⟩⟩
theorem openedE {P : Program} {t : TypeId} {d : Kd α} {len : α → Nat} (hd : ∀ N, d.OpensE P t N len) {H : Type} {enc : TypeId × Value → H} {w : World} {base : Nat} {spare : Nat → Bool} {held : Bool} {v : Value} {x : DataW H} {ps : List MemPlace}
    (h : DataW.Trod enc P w base spare held t v x ps) (hw : (x.weights P t).all (· ≤ reachBytes) = true) : ∃ a, d.K w Any a v.cells.toList ∧ len a ≤ 12 * uptoBulk x := by
  obtain ⟨fuel, hf⟩ := h
  exact (hd fuel).2 H enc w base spare held fuel _ _ (Nat.le_refl _) hf hw
end Kd
def il (n : Int) : Nat := (intV n).length
def ul (n : Int) : Nat := (uintV n.toNat).length
def tl (s : ByteArray) : Nat := (textV s).length
def dl (b : Bool) : Nat := (dropV b).length
def sl {α : Type} (len : α → Nat) (xs : List α) : Nat := 11 + (xs.map len).sum
theorem oInt {t : TypeId} (ht : Try.prog.underlying t = some (.int .i64)) (hc : Try.prog.cellsOf t = 1) (N : Nat) : (Kd.int .i64).OpensE Try.prog t N il := Kd.OpensE.of _ (Kd.opens_int ht hc N) _ (fun n => by have := (intV_len n).2; unfold il; omega)
theorem oUint {t : TypeId} (ht : Try.prog.underlying t = some (.int .u64)) (hc : Try.prog.cellsOf t = 1) (N : Nat) : (Kd.int .u64).OpensE Try.prog t N ul := Kd.OpensE.of _ (Kd.opens_int ht hc N) _ (fun n => by have := (uintV_len n.toNat).2; unfold ul; omega)
theorem oBool {t : TypeId} (ht : Try.prog.underlying t = some .bool) (hc : Try.prog.cellsOf t = 1) (N : Nat) : Kd.bool.OpensE Try.prog t N dl := Kd.OpensE.of _ (Kd.opens_bool ht hc N) _ (fun n => by unfold dl; rw [dropV_len]; omega)
theorem oText {t : TypeId} (ht : Try.prog.underlying t = some .string) (hc : Try.prog.cellsOf t = 1) (N : Nat) : Kd.string.OpensE Try.prog t N tl := Kd.opensE_string ht hc N
def lenSpan (x : Span) : Nat := il x.From + il x.To
def lenFact (x : Fact) : Nat := il x.Time + (sl tl x.Dims + sl il x.Meas)
def lenFilter (x : Filter) : Nat := (filterV x).length
def lenAgg (x : Agg) : Nat := il x.Kind + il x.Col
def lenQuery (x : Query) : Nat := lenSpan x.Span + (lenFilter x.Filter + (il x.Grain + (sl (sl il) x.Sets + (sl lenAgg x.Aggs + (il x.Groups + il x.Rows)))))
def lenSeg (x : Seg) : Nat := lenSpan x.Span + (il x.Version + (il x.Part + il x.Core))
def lenPiece (x : Piece) : Nat := lenSeg x.Seg + lenSpan x.Span
def lenOrder (x : Order) : Nat := dl x.Drop + (lenSeg x.Seg + il x.Node)
def lenKey (x : Key) : Nat := il x.Set + (il x.Bucket + sl tl x.Dims)
def lenPartial (x : Partial) : Nat := ul x.N + (il x.V + sl tl x.Texts)
def lenGroup (x : Group) : Nat := lenKey x.Key + sl lenPartial x.Parts
def lenMsg (x : Msg) : Nat := il x.Kind + (il x.From + (il x.To + (ul x.Id + (ul x.Ask + (ul x.Offset + (il x.Term + (ul x.Count + (il x.Code + (lenFact x.Fact + (lenQuery x.Query + (lenPiece x.Piece + (lenOrder x.Order + (sl lenSeg x.Segs + sl lenGroup x.Groups)))))))))))))
def lenOp (x : Op) : Nat := il x.Kind + (il x.I + (ul x.N + lenMsg x.M))
theorem il_eq (n : Int) : (intV n).length = il n := rfl
theorem ul_eq (n : Int) : (uintV n.toNat).length = ul n := rfl
theorem sl_le {α : Type} (f : α → List Value) (len : α → Nat) (hl : ∀ a, (f a).length ≤ len a) (xs : List α) : (uintV xs.length).length + (xs.flatMap f).length ≤ sl len xs := by
  unfold sl
  have h1 := (uintV_len xs.length).2
  have h2 : (xs.flatMap f).length ≤ (xs.map len).sum := by
    induction xs with
    | nil => simp
    | cons a r ih =>
      simp only [List.flatMap_cons, List.length_append, List.map_cons, List.sum_cons]
      have := hl a
      have := ih (uintV_len r.length).2
      omega
  omega
theorem filter_len (x : Filter) : lenFilter x ≤ il x.Kind + (il x.Dim + (sl tl x.Texts + (il x.Lo + (il x.Hi + sl lenFilter x.Kids)))) := by
  have h1 := sl_le textV tl (fun a => Nat.le_refl _) x.Texts
  have h2 := sl_le filterV lenFilter (fun a => Nat.le_refl _) x.Kids
  show (filterV x).length ≤ _
  rw [filterV_eq]
  unfold filterH textsV textsL
  simp only [List.length_append, il_eq]
  omega
set_option maxHeartbeats 8000000 in
theorem kSpan_opensE : ∀ N, kSpan.OpensE Try.prog 37 N lenSpan
  | 0 => Kd.opensE_zero Try.cells37
  | N + 1 => Kd.opensE_struct (fun y => ⟨y.1, y.2⟩) (fun _ => rfl) Try.underlying37 Try.cells37 (Kd.fieldsE_cons rfl (oInt Try.underlying2 Try.cells2 _) (Kd.fieldsE_one rfl (oInt Try.underlying2 Try.cells2 _)))
set_option maxHeartbeats 8000000 in
theorem kFact_opensE : ∀ N, kFact.OpensE Try.prog 35 N lenFact
  | 0 => Kd.opensE_zero Try.cells35
  | N + 1 => Kd.opensE_struct (fun y => ⟨y.1, y.2.1, y.2.2⟩) (fun _ => rfl) Try.underlying35 Try.cells35 (Kd.fieldsE_cons rfl (oInt Try.underlying2 Try.cells2 _) (Kd.fieldsE_cons rfl ((Kd.opensE_slice_all Try.underlying32 Try.cells32 Try.bytes9 (by decide) (oText Try.underlying9 Try.cells9)) _) (Kd.fieldsE_one rfl ((Kd.opensE_slice_all Try.underlying33 Try.cells33 Try.bytes2 (by decide) (oInt Try.underlying2 Try.cells2)) _))))
set_option maxHeartbeats 8000000 in
theorem kFilter_opensE (N : Nat) : kFilter.OpensE Try.prog 40 N lenFilter := by
  refine Kd.opensE_fix Try.cells40 (fun d N hs hd => ?_) N
  refine Kd.OpensE.mono (len := fun x => il x.Kind + (il x.Dim + (sl tl x.Texts + (il x.Lo + (il x.Hi + sl lenFilter x.Kids))))) ?_ filter_len
  exact Kd.opensE_struct (fun y => ⟨y.1, y.2.1, y.2.2.1, y.2.2.2.1, y.2.2.2.2.1, y.2.2.2.2.2⟩) (fun _ => rfl) Try.underlying40 (by rw [Try.cells40]; rfl) (Kd.fieldsE_cons rfl (oInt Try.underlying3 Try.cells3 _) (Kd.fieldsE_cons rfl (oInt Try.underlying3 Try.cells3 _) (Kd.fieldsE_cons rfl ((Kd.opensE_slice_all Try.underlying32 Try.cells32 Try.bytes9 (by decide) (oText Try.underlying9 Try.cells9)) _) (Kd.fieldsE_cons rfl (oInt Try.underlying2 Try.cells2 _) (Kd.fieldsE_cons rfl (oInt Try.underlying2 Try.cells2 _) (Kd.fieldsE_one rfl (Kd.opensE_slice_upto Try.underlying38 Try.cells38 Try.bytes40 (by rw [hs]; decide) hd)))))))
set_option maxHeartbeats 8000000 in
theorem kAgg_opensE : ∀ N, kAgg.OpensE Try.prog 119 N lenAgg
  | 0 => Kd.opensE_zero Try.cells119
  | N + 1 => Kd.opensE_struct (fun y => ⟨y.1, y.2⟩) (fun _ => rfl) Try.underlying119 Try.cells119 (Kd.fieldsE_cons rfl (oInt Try.underlying3 Try.cells3 _) (Kd.fieldsE_one rfl (oInt Try.underlying3 Try.cells3 _)))
set_option maxHeartbeats 8000000 in
theorem kQuery_opensE : ∀ N, kQuery.OpensE Try.prog 44 N lenQuery
  | 0 => Kd.opensE_zero Try.cells44
  | N + 1 => Kd.opensE_struct (fun y => ⟨y.1, y.2.1, y.2.2.1, y.2.2.2.1, y.2.2.2.2.1, y.2.2.2.2.2.1, y.2.2.2.2.2.2⟩) (fun _ => rfl) Try.underlying44 Try.cells44 (Kd.fieldsE_cons rfl (kSpan_opensE _) (Kd.fieldsE_cons rfl (kFilter_opensE _) (Kd.fieldsE_cons rfl (oInt Try.underlying2 Try.cells2 _) (Kd.fieldsE_cons rfl ((Kd.opensE_slice_all Try.underlying41 Try.cells41 Try.bytes81 (by decide) (Kd.opensE_slice_all Try.underlying81 Try.cells81 Try.bytes3 (by decide) (oInt Try.underlying3 Try.cells3))) _) (Kd.fieldsE_cons rfl ((Kd.opensE_slice_all Try.underlying42 Try.cells42 Try.bytes119 (by decide) kAgg_opensE) _) (Kd.fieldsE_cons rfl (oInt Try.underlying3 Try.cells3 _) (Kd.fieldsE_one rfl (oInt Try.underlying3 Try.cells3 _))))))))
set_option maxHeartbeats 8000000 in
theorem kSeg_opensE : ∀ N, kSeg.OpensE Try.prog 46 N lenSeg
  | 0 => Kd.opensE_zero Try.cells46
  | N + 1 => Kd.opensE_struct (fun y => ⟨y.1, y.2.1, y.2.2.1, y.2.2.2⟩) (fun _ => rfl) Try.underlying46 Try.cells46 (Kd.fieldsE_cons rfl (kSpan_opensE _) (Kd.fieldsE_cons rfl (oInt Try.underlying3 Try.cells3 _) (Kd.fieldsE_cons rfl (oInt Try.underlying3 Try.cells3 _) (Kd.fieldsE_one rfl (oInt Try.underlying3 Try.cells3 _)))))
set_option maxHeartbeats 8000000 in
theorem kPiece_opensE : ∀ N, kPiece.OpensE Try.prog 48 N lenPiece
  | 0 => Kd.opensE_zero Try.cells48
  | N + 1 => Kd.opensE_struct (fun y => ⟨y.1, y.2⟩) (fun _ => rfl) Try.underlying48 Try.cells48 (Kd.fieldsE_cons rfl (kSeg_opensE _) (Kd.fieldsE_one rfl (kSpan_opensE _)))
set_option maxHeartbeats 8000000 in
theorem kOrder_opensE : ∀ N, kOrder.OpensE Try.prog 50 N lenOrder
  | 0 => Kd.opensE_zero Try.cells50
  | N + 1 => Kd.opensE_struct (fun y => ⟨y.1, y.2.1, y.2.2⟩) (fun _ => rfl) Try.underlying50 Try.cells50 (Kd.fieldsE_cons rfl (oBool Try.underlying4 Try.cells4 _) (Kd.fieldsE_cons rfl (kSeg_opensE _) (Kd.fieldsE_one rfl (oInt Try.underlying3 Try.cells3 _))))
set_option maxHeartbeats 8000000 in
theorem kKey_opensE : ∀ N, kKey.OpensE Try.prog 125 N lenKey
  | 0 => Kd.opensE_zero Try.cells125
  | N + 1 => Kd.opensE_struct (fun y => ⟨y.1, y.2.1, y.2.2⟩) (fun _ => rfl) Try.underlying125 Try.cells125 (Kd.fieldsE_cons rfl (oInt Try.underlying3 Try.cells3 _) (Kd.fieldsE_cons rfl (oInt Try.underlying2 Try.cells2 _) (Kd.fieldsE_one rfl ((Kd.opensE_slice_all Try.underlying32 Try.cells32 Try.bytes9 (by decide) (oText Try.underlying9 Try.cells9)) _))))
set_option maxHeartbeats 8000000 in
theorem kPartial_opensE : ∀ N, kPartial.OpensE Try.prog 131 N lenPartial
  | 0 => Kd.opensE_zero Try.cells131
  | N + 1 => Kd.opensE_struct (fun y => ⟨y.1, y.2.1, y.2.2⟩) (fun _ => rfl) Try.underlying131 Try.cells131 (Kd.fieldsE_cons rfl (oUint Try.underlying28 Try.cells28 _) (Kd.fieldsE_cons rfl (oInt Try.underlying2 Try.cells2 _) (Kd.fieldsE_one rfl ((Kd.opensE_slice_all Try.underlying32 Try.cells32 Try.bytes9 (by decide) (oText Try.underlying9 Try.cells9)) _))))
set_option maxHeartbeats 8000000 in
theorem kGroup_opensE : ∀ N, kGroup.OpensE Try.prog 128 N lenGroup
  | 0 => Kd.opensE_zero Try.cells128
  | N + 1 => Kd.opensE_struct (fun y => ⟨y.1, y.2⟩) (fun _ => rfl) Try.underlying128 Try.cells128 (Kd.fieldsE_cons rfl (kKey_opensE _) (Kd.fieldsE_one rfl ((Kd.opensE_slice_all Try.underlying126 Try.cells126 Try.bytes131 (by decide) kPartial_opensE) _)))
set_option maxHeartbeats 8000000 in
theorem kMsg_opensE : ∀ N, kMsg.OpensE Try.prog 54 N lenMsg
  | 0 => Kd.opensE_zero Try.cells54
  | N + 1 => Kd.opensE_struct (fun y => ⟨y.1, y.2.1, y.2.2.1, y.2.2.2.1, y.2.2.2.2.1, y.2.2.2.2.2.1, y.2.2.2.2.2.2.1, y.2.2.2.2.2.2.2.1, y.2.2.2.2.2.2.2.2.1, y.2.2.2.2.2.2.2.2.2.1, y.2.2.2.2.2.2.2.2.2.2.1, y.2.2.2.2.2.2.2.2.2.2.2.1, y.2.2.2.2.2.2.2.2.2.2.2.2.1, y.2.2.2.2.2.2.2.2.2.2.2.2.2.1, y.2.2.2.2.2.2.2.2.2.2.2.2.2.2⟩) (fun _ => rfl) Try.underlying54 Try.cells54 (Kd.fieldsE_cons rfl (oInt Try.underlying3 Try.cells3 _) (Kd.fieldsE_cons rfl (oInt Try.underlying3 Try.cells3 _) (Kd.fieldsE_cons rfl (oInt Try.underlying3 Try.cells3 _) (Kd.fieldsE_cons rfl (oUint Try.underlying28 Try.cells28 _) (Kd.fieldsE_cons rfl (oUint Try.underlying28 Try.cells28 _) (Kd.fieldsE_cons rfl (oUint Try.underlying28 Try.cells28 _) (Kd.fieldsE_cons rfl (oInt Try.underlying3 Try.cells3 _) (Kd.fieldsE_cons rfl (oUint Try.underlying28 Try.cells28 _) (Kd.fieldsE_cons rfl (oInt Try.underlying31 Try.cells31 _) (Kd.fieldsE_cons rfl (kFact_opensE _) (Kd.fieldsE_cons rfl (kQuery_opensE _) (Kd.fieldsE_cons rfl (kPiece_opensE _) (Kd.fieldsE_cons rfl (kOrder_opensE _) (Kd.fieldsE_cons rfl ((Kd.opensE_slice_all Try.underlying51 Try.cells51 Try.bytes46 (by decide) kSeg_opensE) _) (Kd.fieldsE_one rfl ((Kd.opensE_slice_all Try.underlying52 Try.cells52 Try.bytes128 (by decide) kGroup_opensE) _))))))))))))))))
set_option maxHeartbeats 8000000 in
theorem kOp_opensE : ∀ N, kOp.OpensE Try.prog 56 N lenOp
  | 0 => Kd.opensE_zero Try.cells56
  | N + 1 => Kd.opensE_struct (fun y => ⟨y.1, y.2.1, y.2.2.1, y.2.2.2⟩) (fun _ => rfl) Try.underlying56 Try.cells56 (Kd.fieldsE_cons rfl (oInt Try.underlying3 Try.cells3 _) (Kd.fieldsE_cons rfl (oInt Try.underlying3 Try.cells3 _) (Kd.fieldsE_cons rfl (oUint Try.underlying28 Try.cells28 _) (Kd.fieldsE_one rfl (kMsg_opensE _)))))
theorem kOps_opensE : ∀ N, (Kd.slice 480 kOp).OpensE Try.prog 22 N (sl lenOp) := Kd.opensE_slice_all Try.underlying22 Try.cells22 Try.bytes56 (by decide) kOp_opensE
theorem spanV_len (x : Span) : (spanV x).length = lenSpan x := by unfold spanV lenSpan il; rw [List.length_append]
theorem segV_len (x : Seg) : (segV x).length = lenSeg x := by unfold segV lenSeg il; simp only [List.length_append, spanV_len]; omega
theorem aggV_len (x : Agg) : (aggV x).length = lenAgg x := by unfold aggV lenAgg il; rw [List.length_append]
theorem setV_len (s : List Int) : (setV s).length ≤ sl il s := by
  have := sl_le intV il (fun a => Nat.le_refl _) s
  unfold setV
  rw [List.length_append]
  exact this
theorem textsV_len (l : List ByteArray) : (textsV l).length ≤ sl tl l := by
  have := sl_le textV tl (fun a => Nat.le_refl _) l
  unfold textsV textsL
  rw [List.length_append]
  exact this
theorem queryV_len (x : Query) : (queryV x).length ≤ lenQuery x := by
  have h1 := sl_le setV (sl il) setV_len x.Sets
  have h2 := sl_le aggV lenAgg (fun a => Nat.le_of_eq (aggV_len a)) x.Aggs
  have h3 : (filterV x.Filter).length = lenFilter x.Filter := rfl
  unfold queryV queryI queryH lenQuery
  simp only [List.length_append, spanV_len, il_eq, h3]
  omega
theorem partV_len (x : Partial) : (partV x).length ≤ lenPartial x := by
  have h1 := textsV_len x.Texts
  unfold partV lenPartial
  simp only [List.length_append, il_eq, ul_eq]
  omega
theorem groupV_len (x : Group) : (groupV x).length ≤ lenGroup x := by
  have h1 := textsV_len x.Key.Dims
  have h2 := sl_le partV lenPartial partV_len x.Parts
  unfold groupV groupH lenGroup lenKey
  simp only [List.length_append, il_eq]
  omega
theorem putV_len (x : Msg) : (putV x).length ≤ lenMsg x := by
  have h1 := textsV_len x.Fact.Dims
  have h2 := sl_le intV il (fun a => Nat.le_refl _) x.Fact.Meas
  have h3 := queryV_len x.Query
  have h4 := sl_le segV lenSeg (fun a => Nat.le_of_eq (segV_len a)) x.Segs
  have h5 := sl_le groupV lenGroup groupV_len x.Groups
  obtain ⟨a0, ha0⟩ : ∃ n, (textsV x.Fact.Dims).length = n := ⟨_, rfl⟩
  obtain ⟨a1, ha1⟩ : ∃ n, (uintV x.Fact.Meas.length).length = n := ⟨_, rfl⟩
  obtain ⟨a2, ha2⟩ : ∃ n, (x.Fact.Meas.flatMap intV).length = n := ⟨_, rfl⟩
  obtain ⟨a3, ha3⟩ : ∃ n, (queryV x.Query).length = n := ⟨_, rfl⟩
  obtain ⟨a4, ha4⟩ : ∃ n, (uintV x.Segs.length).length = n := ⟨_, rfl⟩
  obtain ⟨a5, ha5⟩ : ∃ n, (x.Segs.flatMap segV).length = n := ⟨_, rfl⟩
  obtain ⟨a6, ha6⟩ : ∃ n, (uintV x.Groups.length).length = n := ⟨_, rfl⟩
  obtain ⟨a7, ha7⟩ : ∃ n, (x.Groups.flatMap groupV).length = n := ⟨_, rfl⟩
  have e : (putV x).length = il x.Kind + il x.From + il x.To + ul x.Id + ul x.Ask + ul x.Offset + il x.Term + ul x.Count + il x.Code + il x.Fact.Time + a0 + a1 + a2 + a3 + lenSeg x.Piece.Seg + lenSpan x.Piece.Span + dl x.Order.Drop + lenSeg x.Order.Seg + il x.Order.Node + a4 + a5 + a6 + a7 := by
    unfold putV putC putB putB0 putA
    simp only [List.length_append, ha0, ha1, ha2, ha3, ha4, ha5, ha6, ha7, segV_len, spanV_len]
    rfl
  rw [e]
  rw [ha0] at h1
  rw [ha1, ha2] at h2
  rw [ha3] at h3
  rw [ha4, ha5] at h4
  rw [ha6, ha7] at h5
  unfold lenMsg lenFact lenPiece lenOrder
  generalize il x.Kind = b0
  generalize il x.From = b1
  generalize il x.To = b2
  generalize ul x.Id = b3
  generalize ul x.Ask = b4
  generalize ul x.Offset = b5
  generalize il x.Term = b6
  generalize ul x.Count = b7
  generalize il x.Code = b8
  generalize il x.Fact.Time = b9
  generalize lenSeg x.Piece.Seg = b10
  generalize lenSpan x.Piece.Span = b11
  generalize dl x.Order.Drop = b12
  generalize lenSeg x.Order.Seg = b13
  generalize il x.Order.Node = b14
  generalize sl tl x.Fact.Dims = c0 at *
  generalize sl il x.Fact.Meas = c1 at *
  generalize lenQuery x.Query = c2 at *
  generalize sl lenSeg x.Segs = c3 at *
  generalize sl lenGroup x.Groups = c4 at *
  omega
/-- Each message of a small script may be put. -/
theorem small_put {xs : List Op} {n : Nat} (h : sl lenOp xs ≤ 12 * n) (hn : n ≤ 1048576) : ∀ x ∈ xs, (putV x.M).length + 200 ≤ 140737488355328 := by
  intro x hx
  have h1 : lenOp x ≤ (xs.map lenOp).sum := by
    clear h
    induction xs with
    | nil => cases hx
    | cons a r ih =>
      simp only [List.map_cons, List.sum_cons]
      rcases List.mem_cons.1 hx with rfl | hx
      · omega
      · have := ih hx; omega
  have h2 := putV_len x.M
  have h3 : lenMsg x.M ≤ lenOp x := by unfold lenOp; omega
  unfold sl at h
  omega
end Go.Proofs.Ytjpeaeklhcnpnaa.K
