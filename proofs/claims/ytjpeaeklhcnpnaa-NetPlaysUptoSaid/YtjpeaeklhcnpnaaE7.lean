/- gristmillref01.Put by a contract: what it writes hangs on the message alone. No condition but that the bytes fit into memory. -/
import Derived.Test.YtjpeaeklhcnpnaaE6
namespace Go.Proofs.Ytjpeaeklhcnpnaa.K
open Go.RowKit Go.Lib
set_option linter.unusedVariables false
set_option linter.unusedSimpArgs false
theorem uinti_any (n : Int) (hn : (Lit.int .u64 n).wf = true) (w : World) : Calls Try.prog 59 #[.int .u64 n] w (Made w (uintV n.toNat)) := by
  have h : 0 ≤ n ∧ n ≤ 18446744073709551615 := by
    simp only [Lit.wf, Bool.and_eq_true, decide_eq_true_eq] at hn
    exact hn
  obtain ⟨m, rfl⟩ := Int.eq_ofNat_of_zero_le h.1
  exact uint_any m (by omega) w
def partV (p : Partial) : List Value := uintV p.N.toNat ++ intV p.V ++ textsV p.Texts
def groupH (g : Group) : List Value := intV g.Key.Set ++ intV g.Key.Bucket ++ textsV g.Key.Dims ++ uintV g.Parts.length
def groupV (g : Group) : List Value := groupH g ++ g.Parts.flatMap partV
def dropV (b : Bool) : List Value := if b then [.int .u8 1] else [.int .u8 0]
theorem dropV_len (b : Bool) : (dropV b).length = 1 := by cases b <;> rfl
def putA (x : Msg) : List Value := intV x.Kind ++ intV x.From ++ intV x.To ++ uintV x.Id.toNat ++ uintV x.Ask.toNat ++ uintV x.Offset.toNat ++ intV x.Term ++ uintV x.Count.toNat ++ intV x.Code ++ intV x.Fact.Time ++ textsV x.Fact.Dims ++ uintV x.Fact.Meas.length
def putB0 (x : Msg) : List Value := putA x ++ x.Fact.Meas.flatMap intV ++ queryV x.Query ++ segV x.Piece.Seg ++ spanV x.Piece.Span
def putB (x : Msg) : List Value := putB0 x ++ dropV x.Order.Drop ++ segV x.Order.Seg ++ intV x.Order.Node ++ uintV x.Segs.length
def putC (x : Msg) : List Value := putB x ++ x.Segs.flatMap segV ++ uintV x.Groups.length
/-- All that Put writes. -/
def putV (x : Msg) : List Value := putC x ++ x.Groups.flatMap groupV
/-- Whether it may be written. -/
def putOk (x : Msg) : Bool := decide (depthV x.Query.Filter ≤ 20) && decide ((putV x).length ≤ 1048576)
/-- A message's cells. -/
abbrev msgC (x : Msg) (dr : Bool) (A0 A1 A2 A3 A4 A5 A6 A7 : Option Addr) (c0 c1 c2 c3 c4 c5 c6 c7 : Nat) : Array Value := #[.int .i64 x.Kind, .int .i64 x.From, .int .i64 x.To, .int .u64 x.Id, .int .u64 x.Ask, .int .u64 x.Offset, .int .i64 x.Term, .int .u64 x.Count, .int .i64 x.Code, .int .i64 x.Fact.Time, .slice A0 x.Fact.Dims.length c0, .slice A1 x.Fact.Meas.length c1, .int .i64 x.Query.Span.From, .int .i64 x.Query.Span.To, .int .i64 x.Query.Filter.Kind, .int .i64 x.Query.Filter.Dim, .slice A2 x.Query.Filter.Texts.length c2, .int .i64 x.Query.Filter.Lo, .int .i64 x.Query.Filter.Hi, .slice A3 x.Query.Filter.Kids.length c3, .int .i64 x.Query.Grain, .slice A4 x.Query.Sets.length c4, .slice A5 x.Query.Aggs.length c5, .int .i64 x.Query.Groups, .int .i64 x.Query.Rows, .int .i64 x.Piece.Seg.Span.From, .int .i64 x.Piece.Seg.Span.To, .int .i64 x.Piece.Seg.Version, .int .i64 x.Piece.Seg.Part, .int .i64 x.Piece.Seg.Core, .int .i64 x.Piece.Span.From, .int .i64 x.Piece.Span.To, .bool dr, .int .i64 x.Order.Seg.Span.From, .int .i64 x.Order.Seg.Span.To, .int .i64 x.Order.Seg.Version, .int .i64 x.Order.Seg.Part, .int .i64 x.Order.Seg.Core, .int .i64 x.Order.Node, .slice A6 x.Segs.length c6, .slice A7 x.Groups.length c7]
def PutPost (x : Msg) (W : World) (e : Ending) (w' : World) : Prop :=
  ∃ A n c, e = .returned (.tuple #[.slice A n c, .int .i64 (if putOk x then 0 else 1)]) ∧ BB w' W.heap.size (.slice A n c) (if putOk x then putV x else []) ∧ Below W.heap.size W w'
set_option maxHeartbeats 4000000 in
set_option maxRecDepth 100000 in
theorem put_deep {W : World} {x : Msg} {cs : List Value} (hK : kMsg.K W (fun k => k < W.heap.size) x cs) (hd : ¬ depthV x.Query.Filter ≤ 20) : Calls Try.prog 37 #[.agg cs.toArray] W (PutPost x W) := by
  obtain ⟨A0, c0, A1, c1, A2, c2, A3, c3, A4, c4, A5, c5, A6, c6, A7, c7, rfl, h0, h1, h2, h3, h4, h5, h6, h7, h8, h9, ⟨_, _, hC0⟩, ⟨_, _, hC1⟩, q1, q2, q3, q4, q5, q6, q7, q8, q9, q10, q11, q12, q13, s1, s2, s3, s4, s5, s6, s7, r1, r2, r3, r4, r5, r6, ⟨_, _, hC6⟩, ⟨_, _, hC7⟩⟩ := kMsg_open hK
  have HB := Aside.mk (FBox.start W (.cells (msgC x x.Order.Drop A0 A1 A2 A3 A4 A5 A6 A7 c0 c1 c2 c3 c4 c5 c6 c7) 54))
  have HD := Aside.mk (depth_any (W := W.alloc (.cells (msgC x x.Order.Drop A0 A1 A2 A3 A4 A5 A6 A7 c0 c1 c2 c3 c4 c5 c6 c7) 54)) (Kd.below (Kd.any (kFilter_mk W (fun k => k < W.heap.size) x.Query.Filter q3 q4 q5 q6 q7 q8)) HB.out.below))
  have hg : (20 : Int) < (depthV x.Query.Filter : Int) := by omega
  have HOK : Aside (putOk x = false) := ⟨by unfold putOk; simp [hd]⟩
  have f14 : (W.alloc (.cells (msgC x x.Order.Drop A0 A1 A2 A3 A4 A5 A6 A7 c0 c1 c2 c3 c4 c5 c6 c7) 54)).cell? ⟨W.heap.size, 14, none⟩ = some (.int .i64 x.Query.Filter.Kind) := (blk_cell HB.out.box 14).trans rfl
  have f15 : (W.alloc (.cells (msgC x x.Order.Drop A0 A1 A2 A3 A4 A5 A6 A7 c0 c1 c2 c3 c4 c5 c6 c7) 54)).cell? ⟨W.heap.size, 15, none⟩ = some (.int .i64 x.Query.Filter.Dim) := (blk_cell HB.out.box 15).trans rfl
  have f16 : (W.alloc (.cells (msgC x x.Order.Drop A0 A1 A2 A3 A4 A5 A6 A7 c0 c1 c2 c3 c4 c5 c6 c7) 54)).cell? ⟨W.heap.size, 16, none⟩ = some (.slice A2 x.Query.Filter.Texts.length c2) := (blk_cell HB.out.box 16).trans rfl
  have f17 : (W.alloc (.cells (msgC x x.Order.Drop A0 A1 A2 A3 A4 A5 A6 A7 c0 c1 c2 c3 c4 c5 c6 c7) 54)).cell? ⟨W.heap.size, 17, none⟩ = some (.int .i64 x.Query.Filter.Lo) := (blk_cell HB.out.box 17).trans rfl
  have f18 : (W.alloc (.cells (msgC x x.Order.Drop A0 A1 A2 A3 A4 A5 A6 A7 c0 c1 c2 c3 c4 c5 c6 c7) 54)).cell? ⟨W.heap.size, 18, none⟩ = some (.int .i64 x.Query.Filter.Hi) := (blk_cell HB.out.box 18).trans rfl
  have f19 : (W.alloc (.cells (msgC x x.Order.Drop A0 A1 A2 A3 A4 A5 A6 A7 c0 c1 c2 c3 c4 c5 c6 c7) 54)).cell? ⟨W.heap.size, 19, none⟩ = some (.slice A3 x.Query.Filter.Kids.length c3) := (blk_cell HB.out.box 19).trans rfl
  clear h0 h1 h2 h3 h4 h5 h6 h7 h8 h9 hC0 hC1 q1 q2 q3 q4 q5 q6 q7 q8 q9 q10 q11 q12 q13 s1 s2 s3 s4 s5 s6 s7 r1 r2 r3 r4 r5 r6 hC6 hC7 hK hd
  unfold msgC at *
  go_enter Try.func37, Try.ntmps37
  go_wp2_with (go_at_call 11; refine HD.out.mono ?_; rintro e w1 ⟨rfl, hb⟩; have HE := Aside.mk (HB.out.call hb); clear hb)
  refine bodyPost_ret (results_tmp2 rfl _ _ _) rfl ?_
  exact ⟨none, 0, 0, by rw [HOK.out]; rfl, by rw [HOK.out]; exact BB.nil _ _, HE.out.below⟩
theorem BB.len {w : World} {base n c : Nat} {A : Option Addr} {bs : List Value} (h : BB w base (.slice A n c) bs) : n = bs.length := by
  rcases h.row.2 with ⟨e, h0⟩ | ⟨g, cap, cur, e, _⟩
  · injection e with e1 e2 e3; omega
  · injection e with e1 e2 e3
/-- A second box beside the bytes. -/
theorem BS.beside {w0 w V : World} {base : Nat} {v0 v : Value} {bs : List Value} {gb : Option Nat} {obj obj2 : Obj} (h : BS w0 w base v0 v bs gb obj) (hb : Below w.heap.size w V) (h2 : V.heap[w.heap.size]? = some obj2) : BS V V base v v bs (some w.heap.size) obj2 := by
  refine ⟨h.own.kept hb, fun g e => (by cases e; exact h2), fun g e hv => ?_, Nat.le_trans h.base hb.size, Chg.refl _ _, fun k hk => .inl hk⟩
  cases e
  have := (h.own.lt _ hv).2
  omega
theorem BS.back {w0 V w : World} {base n c : Nat} {A : Option Addr} {v0 v : Value} {bs bs2 : List Value} {gb gb2 : Option Nat} {obj obj2 : Obj} (h : BS w0 V base v0 v bs gb obj) (h2 : BS V w base v (.slice A n c) bs2 gb2 obj2) : BS w0 w base v0 (.slice A n c) bs2 gb obj := h.wrote h2.own h2.chg h2.src
/-- A group's cells. -/
abbrev groupC (g : Group) (B0 B1 : Option Addr) (d0 d1 : Nat) : Array Value := #[.int .i64 g.Key.Set, .int .i64 g.Key.Bucket, .slice B0 g.Key.Dims.length d0, .slice B1 g.Parts.length d1]
set_option maxHeartbeats 20000000 in
set_option maxRecDepth 100000 in
theorem put_flat {W : World} {x : Msg} {cs : List Value} (hK : kMsg.K W (fun k => k < W.heap.size) x cs) (hd : depthV x.Query.Filter ≤ 20) (hsz : (putV x).length + 100 ≤ 140737488355328) : Calls Try.prog 37 #[.agg cs.toArray] W (PutPost x W) := by
  obtain ⟨A0, c0, A1, c1, A2, c2, A3, c3, A4, c4, A5, c5, A6, c6, A7, c7, rfl, h0, h1, h2, h3, h4, h5, h6, h7, h8, h9, ⟨_, _, hC0⟩, ⟨_, _, hC1⟩, q1, q2, q3, q4, q5, q6, q7, q8, q9, q10, q11, q12, q13, s1, s2, s3, s4, s5, s6, s7, r1, r2, r3, r4, r5, r6, ⟨_, _, hC6⟩, ⟨_, _, hC7⟩⟩ := kMsg_open hK
  obtain ⟨dr, hdr⟩ : ∃ d, x.Order.Drop = d := ⟨_, rfl⟩
  rw [hdr]
  have HDR := Aside.mk hdr
  have HB := Aside.mk (FBox.start W (.cells (msgC x dr A0 A1 A2 A3 A4 A5 A6 A7 c0 c1 c2 c3 c4 c5 c6 c7) 54))
  have HD := Aside.mk (depth_any (W := W.alloc (.cells (msgC x dr A0 A1 A2 A3 A4 A5 A6 A7 c0 c1 c2 c3 c4 c5 c6 c7) 54)) (Kd.below (Kd.any (kFilter_mk W (fun k => k < W.heap.size) x.Query.Filter q3 q4 q5 q6 q7 q8)) HB.out.below))
  have HKQ := Aside.mk (kQuery_mk W (fun k => k < W.heap.size) x.Query q1 q2 q3 q4 q5 q6 q7 q8 q9 q10 q11 q12 q13)
  have hg : ¬ (20 : Int) < (depthV x.Query.Filter : Int) := by omega
  have HOK : Aside (putOk x = decide ((putV x).length ≤ 1048576)) := ⟨by unfold putOk; simp [hd]⟩
  obtain ⟨bs, hbs⟩ : ∃ bs : List Value, [] = bs := ⟨_, rfl⟩
  have hS0 := BS.boxed (BB.nil W W.heap.size) (Nat.le_refl _) (.cells (msgC x dr A0 A1 A2 A3 A4 A5 A6 A7 c0 c1 c2 c3 c4 c5 c6 c7) 54)
  rw [hbs] at hS0
  have HSX := Aside.mk hS0
  have HBS := Aside.mk hbs
  have HV : Aside (∀ k, (Value.slice none 0 0).ownBlock = some k → W.heap.size ≤ k) := ⟨fun k hk => by cases hk⟩
  have f14 : (W.alloc (.cells (msgC x dr A0 A1 A2 A3 A4 A5 A6 A7 c0 c1 c2 c3 c4 c5 c6 c7) 54)).cell? ⟨W.heap.size, 14, none⟩ = some (.int .i64 x.Query.Filter.Kind) := (blk_cell HB.out.box 14).trans rfl
  have f15 : (W.alloc (.cells (msgC x dr A0 A1 A2 A3 A4 A5 A6 A7 c0 c1 c2 c3 c4 c5 c6 c7) 54)).cell? ⟨W.heap.size, 15, none⟩ = some (.int .i64 x.Query.Filter.Dim) := (blk_cell HB.out.box 15).trans rfl
  have f16 : (W.alloc (.cells (msgC x dr A0 A1 A2 A3 A4 A5 A6 A7 c0 c1 c2 c3 c4 c5 c6 c7) 54)).cell? ⟨W.heap.size, 16, none⟩ = some (.slice A2 x.Query.Filter.Texts.length c2) := (blk_cell HB.out.box 16).trans rfl
  have f17 : (W.alloc (.cells (msgC x dr A0 A1 A2 A3 A4 A5 A6 A7 c0 c1 c2 c3 c4 c5 c6 c7) 54)).cell? ⟨W.heap.size, 17, none⟩ = some (.int .i64 x.Query.Filter.Lo) := (blk_cell HB.out.box 17).trans rfl
  have f18 : (W.alloc (.cells (msgC x dr A0 A1 A2 A3 A4 A5 A6 A7 c0 c1 c2 c3 c4 c5 c6 c7) 54)).cell? ⟨W.heap.size, 18, none⟩ = some (.int .i64 x.Query.Filter.Hi) := (blk_cell HB.out.box 18).trans rfl
  have f19 : (W.alloc (.cells (msgC x dr A0 A1 A2 A3 A4 A5 A6 A7 c0 c1 c2 c3 c4 c5 c6 c7) 54)).cell? ⟨W.heap.size, 19, none⟩ = some (.slice A3 x.Query.Filter.Kids.length c3) := (blk_cell HB.out.box 19).trans rfl
  obtain ⟨a0, ha0⟩ : ∃ n, (intV x.Kind).length = n := ⟨_, rfl⟩
  obtain ⟨a1, ha1⟩ : ∃ n, (intV x.From).length = n := ⟨_, rfl⟩
  obtain ⟨a2, ha2⟩ : ∃ n, (intV x.To).length = n := ⟨_, rfl⟩
  obtain ⟨a3, ha3⟩ : ∃ n, (uintV x.Id.toNat).length = n := ⟨_, rfl⟩
  obtain ⟨a4, ha4⟩ : ∃ n, (uintV x.Ask.toNat).length = n := ⟨_, rfl⟩
  obtain ⟨a5, ha5⟩ : ∃ n, (uintV x.Offset.toNat).length = n := ⟨_, rfl⟩
  obtain ⟨a6, ha6⟩ : ∃ n, (intV x.Term).length = n := ⟨_, rfl⟩
  obtain ⟨a7, ha7⟩ : ∃ n, (uintV x.Count.toNat).length = n := ⟨_, rfl⟩
  obtain ⟨a8, ha8⟩ : ∃ n, (intV x.Code).length = n := ⟨_, rfl⟩
  obtain ⟨a9, ha9⟩ : ∃ n, (intV x.Fact.Time).length = n := ⟨_, rfl⟩
  obtain ⟨a10, ha10⟩ : ∃ n, (textsV x.Fact.Dims).length = n := ⟨_, rfl⟩
  obtain ⟨a11, ha11⟩ : ∃ n, (uintV x.Fact.Meas.length).length = n := ⟨_, rfl⟩
  obtain ⟨a12, ha12⟩ : ∃ n, (x.Fact.Meas.flatMap intV).length = n := ⟨_, rfl⟩
  obtain ⟨a13, ha13⟩ : ∃ n, (queryV x.Query).length = n := ⟨_, rfl⟩
  obtain ⟨a14, ha14⟩ : ∃ n, (segV x.Piece.Seg).length = n := ⟨_, rfl⟩
  obtain ⟨a15, ha15⟩ : ∃ n, (spanV x.Piece.Span).length = n := ⟨_, rfl⟩
  obtain ⟨a16, ha16⟩ : ∃ n, (dropV dr).length = n := ⟨_, rfl⟩
  obtain ⟨a17, ha17⟩ : ∃ n, (segV x.Order.Seg).length = n := ⟨_, rfl⟩
  obtain ⟨a18, ha18⟩ : ∃ n, (intV x.Order.Node).length = n := ⟨_, rfl⟩
  obtain ⟨a19, ha19⟩ : ∃ n, (uintV x.Segs.length).length = n := ⟨_, rfl⟩
  obtain ⟨a20, ha20⟩ : ∃ n, (x.Segs.flatMap segV).length = n := ⟨_, rfl⟩
  obtain ⟨a21, ha21⟩ : ∃ n, (uintV x.Groups.length).length = n := ⟨_, rfl⟩
  obtain ⟨a22, ha22⟩ : ∃ n, (x.Groups.flatMap groupV).length = n := ⟨_, rfl⟩
  have HT : Aside (a0 + a1 + a2 + a3 + a4 + a5 + a6 + a7 + a8 + a9 + a10 + a11 + a12 + a13 + a14 + a15 + a16 + a17 + a18 + a19 + a20 + a21 + a22 + 100 ≤ 140737488355328) := ⟨by unfold putV putC putB putB0 putA at hsz; rw [hdr] at hsz; simp only [List.length_append, ha0, ha1, ha2, ha3, ha4, ha5, ha6, ha7, ha8, ha9, ha10, ha11, ha12, ha13, ha14, ha15, ha16, ha17, ha18, ha19, ha20, ha21, ha22] at hsz; omega⟩
  have LA0 : Aside ((intV x.Kind).length = a0) := ⟨ha0⟩
  have LA1 : Aside ((intV x.From).length = a1) := ⟨ha1⟩
  have LA2 : Aside ((intV x.To).length = a2) := ⟨ha2⟩
  have LA3 : Aside ((uintV x.Id.toNat).length = a3) := ⟨ha3⟩
  have LA4 : Aside ((uintV x.Ask.toNat).length = a4) := ⟨ha4⟩
  have LA5 : Aside ((uintV x.Offset.toNat).length = a5) := ⟨ha5⟩
  have LA6 : Aside ((intV x.Term).length = a6) := ⟨ha6⟩
  have LA7 : Aside ((uintV x.Count.toNat).length = a7) := ⟨ha7⟩
  have LA8 : Aside ((intV x.Code).length = a8) := ⟨ha8⟩
  have LA9 : Aside ((intV x.Fact.Time).length = a9) := ⟨ha9⟩
  have LA10 : Aside ((textsV x.Fact.Dims).length = a10) := ⟨ha10⟩
  have LA11 : Aside ((uintV x.Fact.Meas.length).length = a11) := ⟨ha11⟩
  have LA12 : Aside ((x.Fact.Meas.flatMap intV).length = a12) := ⟨ha12⟩
  have LA13 : Aside ((queryV x.Query).length = a13) := ⟨ha13⟩
  have LA14 : Aside ((segV x.Piece.Seg).length = a14) := ⟨ha14⟩
  have LA15 : Aside ((spanV x.Piece.Span).length = a15) := ⟨ha15⟩
  have LA16 : Aside ((dropV dr).length = a16) := ⟨ha16⟩
  have LA17 : Aside ((segV x.Order.Seg).length = a17) := ⟨ha17⟩
  have LA18 : Aside ((intV x.Order.Node).length = a18) := ⟨ha18⟩
  have LA19 : Aside ((uintV x.Segs.length).length = a19) := ⟨ha19⟩
  have LA20 : Aside ((x.Segs.flatMap segV).length = a20) := ⟨ha20⟩
  have LA21 : Aside ((uintV x.Groups.length).length = a21) := ⟨ha21⟩
  have LA22 : Aside ((x.Groups.flatMap groupV).length = a22) := ⟨ha22⟩
  have LB : Aside (bs.length = 0) := ⟨by rw [← hbs]; rfl⟩
  clear hsz ha0 ha1 ha2 ha3 ha4 ha5 ha6 ha7 ha8 ha9 ha10 ha11 ha12 ha13 ha14 ha15 ha16 ha17 ha18 ha19 ha20 ha21 ha22 hdr
  have HSZ : Aside ((bs ++ intV x.Kind ++ intV x.From ++ intV x.To ++ uintV x.Id.toNat ++ uintV x.Ask.toNat ++ uintV x.Offset.toNat ++ intV x.Term ++ uintV x.Count.toNat ++ intV x.Code ++ intV x.Fact.Time ++ textsV x.Fact.Dims ++ uintV x.Fact.Meas.length).length + 100 ≤ 140737488355328) := ⟨by have := HT.out; simp only [List.length_append, LB.out, LA0.out, LA1.out, LA2.out, LA3.out, LA4.out, LA5.out, LA6.out, LA7.out, LA8.out, LA9.out, LA10.out, LA11.out, LA12.out, LA13.out, LA14.out, LA15.out, LA16.out, LA17.out, LA18.out, LA19.out, LA20.out, LA21.out, LA22.out]; omega⟩
  have HTD : Aside ((bs ++ intV x.Kind ++ intV x.From ++ intV x.To ++ uintV x.Id.toNat ++ uintV x.Ask.toNat ++ uintV x.Offset.toNat ++ intV x.Term ++ uintV x.Count.toNat ++ intV x.Code ++ intV x.Fact.Time).length + (textsV x.Fact.Dims).length + 100 ≤ 140737488355328) := ⟨by have := HT.out; simp only [List.length_append, LB.out, LA0.out, LA1.out, LA2.out, LA3.out, LA4.out, LA5.out, LA6.out, LA7.out, LA8.out, LA9.out, LA10.out, LA11.out, LA12.out, LA13.out, LA14.out, LA15.out, LA16.out, LA17.out, LA18.out, LA19.out, LA20.out, LA21.out, LA22.out]; omega⟩
  have HLQ : Aside ((bs ++ putA x ++ x.Fact.Meas.flatMap intV ++ queryV x.Query).length + 100 ≤ 140737488355328) := ⟨by have := HT.out; unfold putA; simp only [List.length_append, LB.out, LA0.out, LA1.out, LA2.out, LA3.out, LA4.out, LA5.out, LA6.out, LA7.out, LA8.out, LA9.out, LA10.out, LA11.out, LA12.out, LA13.out, LA14.out, LA15.out, LA16.out, LA17.out, LA18.out, LA19.out, LA20.out, LA21.out, LA22.out]; omega⟩
  have HLS : Aside ((bs ++ putA x ++ x.Fact.Meas.flatMap intV ++ queryV x.Query ++ segV x.Piece.Seg).length + 100 ≤ 140737488355328) := ⟨by have := HT.out; unfold putA; simp only [List.length_append, LB.out, LA0.out, LA1.out, LA2.out, LA3.out, LA4.out, LA5.out, LA6.out, LA7.out, LA8.out, LA9.out, LA10.out, LA11.out, LA12.out, LA13.out, LA14.out, LA15.out, LA16.out, LA17.out, LA18.out, LA19.out, LA20.out, LA21.out, LA22.out]; omega⟩
  have HLP : Aside ((bs ++ putA x ++ x.Fact.Meas.flatMap intV ++ queryV x.Query ++ segV x.Piece.Seg ++ spanV x.Piece.Span).length + 100 ≤ 140737488355328) := ⟨by have := HT.out; unfold putA; simp only [List.length_append, LB.out, LA0.out, LA1.out, LA2.out, LA3.out, LA4.out, LA5.out, LA6.out, LA7.out, LA8.out, LA9.out, LA10.out, LA11.out, LA12.out, LA13.out, LA14.out, LA15.out, LA16.out, LA17.out, LA18.out, LA19.out, LA20.out, LA21.out, LA22.out]; omega⟩
  have HLO : Aside ((bs ++ putB0 x ++ dropV dr ++ segV x.Order.Seg).length + 100 ≤ 140737488355328) := ⟨by have := HT.out; unfold putB0 putA; simp only [List.length_append, LB.out, LA0.out, LA1.out, LA2.out, LA3.out, LA4.out, LA5.out, LA6.out, LA7.out, LA8.out, LA9.out, LA10.out, LA11.out, LA12.out, LA13.out, LA14.out, LA15.out, LA16.out, LA17.out, LA18.out, LA19.out, LA20.out, LA21.out, LA22.out]; omega⟩
  have HC0 := Aside.mk hC0
  have HC1 := Aside.mk hC1
  have HC6 := Aside.mk hC6
  have HC7 := Aside.mk hC7
  have HW := Aside.mk (And.intro s1 (And.intro s2 (And.intro s3 (And.intro s4 (And.intro s5 (And.intro s6 s7))))))
  have HWR := Aside.mk (And.intro r1 (And.intro r2 (And.intro r3 (And.intro r4 (And.intro r5 r6)))))
  have hk1 : x.Fact.Meas.length ≤ 9223372036854775807 := hC1.2.1
  have hk6 : x.Segs.length ≤ 9223372036854775807 := hC6.2.1
  have hk7 : x.Groups.length ≤ 9223372036854775807 := hC7.2.1
  have hw1 : IntKind.u64.wrap (x.Fact.Meas.length : Int) = x.Fact.Meas.length := by rw [IntKind.wrap_u64]; omega
  have hw6 : IntKind.u64.wrap (x.Segs.length : Int) = x.Segs.length := by rw [IntKind.wrap_u64]; omega
  have hw7 : IntKind.u64.wrap (x.Groups.length : Int) = x.Groups.length := by rw [IntKind.wrap_u64]; omega
  have HI0 := fun W_ => Aside.mk (int_any x.Kind h0 W_)
  have HY0 : Aside (0 < (intV x.Kind).length) := ⟨(intV_len _).1⟩
  have HL0 : Aside ((bs).length + (intV x.Kind).length ≤ 140737488355328) := ⟨by have := HT.out; simp only [List.length_append, LB.out, LA0.out, LA1.out, LA2.out, LA3.out, LA4.out, LA5.out, LA6.out, LA7.out, LA8.out, LA9.out, LA10.out, LA11.out, LA12.out, LA13.out, LA14.out, LA15.out, LA16.out, LA17.out, LA18.out, LA19.out, LA20.out, LA21.out, LA22.out]; omega⟩
  have HI1 := fun W_ => Aside.mk (int_any x.From h1 W_)
  have HY1 : Aside (0 < (intV x.From).length) := ⟨(intV_len _).1⟩
  have HL1 : Aside ((bs ++ intV x.Kind).length + (intV x.From).length ≤ 140737488355328) := ⟨by have := HT.out; simp only [List.length_append, LB.out, LA0.out, LA1.out, LA2.out, LA3.out, LA4.out, LA5.out, LA6.out, LA7.out, LA8.out, LA9.out, LA10.out, LA11.out, LA12.out, LA13.out, LA14.out, LA15.out, LA16.out, LA17.out, LA18.out, LA19.out, LA20.out, LA21.out, LA22.out]; omega⟩
  have HI2 := fun W_ => Aside.mk (int_any x.To h2 W_)
  have HY2 : Aside (0 < (intV x.To).length) := ⟨(intV_len _).1⟩
  have HL2 : Aside ((bs ++ intV x.Kind ++ intV x.From).length + (intV x.To).length ≤ 140737488355328) := ⟨by have := HT.out; simp only [List.length_append, LB.out, LA0.out, LA1.out, LA2.out, LA3.out, LA4.out, LA5.out, LA6.out, LA7.out, LA8.out, LA9.out, LA10.out, LA11.out, LA12.out, LA13.out, LA14.out, LA15.out, LA16.out, LA17.out, LA18.out, LA19.out, LA20.out, LA21.out, LA22.out]; omega⟩
  have HI3 := fun W_ => Aside.mk (uinti_any x.Id h3 W_)
  have HY3 : Aside (0 < (uintV x.Id.toNat).length) := ⟨(uintV_len _).1⟩
  have HL3 : Aside ((bs ++ intV x.Kind ++ intV x.From ++ intV x.To).length + (uintV x.Id.toNat).length ≤ 140737488355328) := ⟨by have := HT.out; simp only [List.length_append, LB.out, LA0.out, LA1.out, LA2.out, LA3.out, LA4.out, LA5.out, LA6.out, LA7.out, LA8.out, LA9.out, LA10.out, LA11.out, LA12.out, LA13.out, LA14.out, LA15.out, LA16.out, LA17.out, LA18.out, LA19.out, LA20.out, LA21.out, LA22.out]; omega⟩
  have HI4 := fun W_ => Aside.mk (uinti_any x.Ask h4 W_)
  have HY4 : Aside (0 < (uintV x.Ask.toNat).length) := ⟨(uintV_len _).1⟩
  have HL4 : Aside ((bs ++ intV x.Kind ++ intV x.From ++ intV x.To ++ uintV x.Id.toNat).length + (uintV x.Ask.toNat).length ≤ 140737488355328) := ⟨by have := HT.out; simp only [List.length_append, LB.out, LA0.out, LA1.out, LA2.out, LA3.out, LA4.out, LA5.out, LA6.out, LA7.out, LA8.out, LA9.out, LA10.out, LA11.out, LA12.out, LA13.out, LA14.out, LA15.out, LA16.out, LA17.out, LA18.out, LA19.out, LA20.out, LA21.out, LA22.out]; omega⟩
  have HI5 := fun W_ => Aside.mk (uinti_any x.Offset h5 W_)
  have HY5 : Aside (0 < (uintV x.Offset.toNat).length) := ⟨(uintV_len _).1⟩
  have HL5 : Aside ((bs ++ intV x.Kind ++ intV x.From ++ intV x.To ++ uintV x.Id.toNat ++ uintV x.Ask.toNat).length + (uintV x.Offset.toNat).length ≤ 140737488355328) := ⟨by have := HT.out; simp only [List.length_append, LB.out, LA0.out, LA1.out, LA2.out, LA3.out, LA4.out, LA5.out, LA6.out, LA7.out, LA8.out, LA9.out, LA10.out, LA11.out, LA12.out, LA13.out, LA14.out, LA15.out, LA16.out, LA17.out, LA18.out, LA19.out, LA20.out, LA21.out, LA22.out]; omega⟩
  have HI6 := fun W_ => Aside.mk (int_any x.Term h6 W_)
  have HY6 : Aside (0 < (intV x.Term).length) := ⟨(intV_len _).1⟩
  have HL6 : Aside ((bs ++ intV x.Kind ++ intV x.From ++ intV x.To ++ uintV x.Id.toNat ++ uintV x.Ask.toNat ++ uintV x.Offset.toNat).length + (intV x.Term).length ≤ 140737488355328) := ⟨by have := HT.out; simp only [List.length_append, LB.out, LA0.out, LA1.out, LA2.out, LA3.out, LA4.out, LA5.out, LA6.out, LA7.out, LA8.out, LA9.out, LA10.out, LA11.out, LA12.out, LA13.out, LA14.out, LA15.out, LA16.out, LA17.out, LA18.out, LA19.out, LA20.out, LA21.out, LA22.out]; omega⟩
  have HI7 := fun W_ => Aside.mk (uinti_any x.Count h7 W_)
  have HY7 : Aside (0 < (uintV x.Count.toNat).length) := ⟨(uintV_len _).1⟩
  have HL7 : Aside ((bs ++ intV x.Kind ++ intV x.From ++ intV x.To ++ uintV x.Id.toNat ++ uintV x.Ask.toNat ++ uintV x.Offset.toNat ++ intV x.Term).length + (uintV x.Count.toNat).length ≤ 140737488355328) := ⟨by have := HT.out; simp only [List.length_append, LB.out, LA0.out, LA1.out, LA2.out, LA3.out, LA4.out, LA5.out, LA6.out, LA7.out, LA8.out, LA9.out, LA10.out, LA11.out, LA12.out, LA13.out, LA14.out, LA15.out, LA16.out, LA17.out, LA18.out, LA19.out, LA20.out, LA21.out, LA22.out]; omega⟩
  have HI8 := fun W_ => Aside.mk (int_any x.Code h8 W_)
  have HY8 : Aside (0 < (intV x.Code).length) := ⟨(intV_len _).1⟩
  have HL8 : Aside ((bs ++ intV x.Kind ++ intV x.From ++ intV x.To ++ uintV x.Id.toNat ++ uintV x.Ask.toNat ++ uintV x.Offset.toNat ++ intV x.Term ++ uintV x.Count.toNat).length + (intV x.Code).length ≤ 140737488355328) := ⟨by have := HT.out; simp only [List.length_append, LB.out, LA0.out, LA1.out, LA2.out, LA3.out, LA4.out, LA5.out, LA6.out, LA7.out, LA8.out, LA9.out, LA10.out, LA11.out, LA12.out, LA13.out, LA14.out, LA15.out, LA16.out, LA17.out, LA18.out, LA19.out, LA20.out, LA21.out, LA22.out]; omega⟩
  have HI9 := fun W_ => Aside.mk (int_any x.Fact.Time h9 W_)
  have HY9 : Aside (0 < (intV x.Fact.Time).length) := ⟨(intV_len _).1⟩
  have HL9 : Aside ((bs ++ intV x.Kind ++ intV x.From ++ intV x.To ++ uintV x.Id.toNat ++ uintV x.Ask.toNat ++ uintV x.Offset.toNat ++ intV x.Term ++ uintV x.Count.toNat ++ intV x.Code).length + (intV x.Fact.Time).length ≤ 140737488355328) := ⟨by have := HT.out; simp only [List.length_append, LB.out, LA0.out, LA1.out, LA2.out, LA3.out, LA4.out, LA5.out, LA6.out, LA7.out, LA8.out, LA9.out, LA10.out, LA11.out, LA12.out, LA13.out, LA14.out, LA15.out, LA16.out, LA17.out, LA18.out, LA19.out, LA20.out, LA21.out, LA22.out]; omega⟩
  have HI11 := fun W_ => Aside.mk (uint_any x.Fact.Meas.length (by omega) W_)
  have HY11 : Aside (0 < (uintV x.Fact.Meas.length).length) := ⟨(uintV_len _).1⟩
  have HL11 : Aside ((bs ++ intV x.Kind ++ intV x.From ++ intV x.To ++ uintV x.Id.toNat ++ uintV x.Ask.toNat ++ uintV x.Offset.toNat ++ intV x.Term ++ uintV x.Count.toNat ++ intV x.Code ++ intV x.Fact.Time ++ textsV x.Fact.Dims).length + (uintV x.Fact.Meas.length).length ≤ 140737488355328) := ⟨by have := HT.out; simp only [List.length_append, LB.out, LA0.out, LA1.out, LA2.out, LA3.out, LA4.out, LA5.out, LA6.out, LA7.out, LA8.out, LA9.out, LA10.out, LA11.out, LA12.out, LA13.out, LA14.out, LA15.out, LA16.out, LA17.out, LA18.out, LA19.out, LA20.out, LA21.out, LA22.out]; omega⟩
  clear h0 h1 h2 h3 h4 h5 h6 h7 h8 h9 hC0 hC1 q1 q2 q3 q4 q5 q6 q7 q8 q9 q10 q11 q12 q13 s1 s2 s3 s4 s5 s6 s7 r1 r2 r3 r4 r5 r6 hC6 hC7 hK hd hbs hS0
  unfold msgC at *
  go_enter Try.func37, Try.ntmps37
  go_wp2_with (first
    | (go_at_call 11; refine HD.out.mono ?_; rintro e w1 ⟨rfl, hb⟩; have HS := Aside.mk (HSX.out.call hb); have f0 : w1.cell? ⟨W.heap.size, 0, none⟩ = some (.int .i64 x.Kind) := (HS.out.cell 0).trans rfl; have HT0 : Aside True := ⟨trivial⟩; clear hb HD)
    | (refine wpList_append_bb rfl _ _ rfl (by rfl) (by rfl) HP11.out HQ11.out HY11.out HL11.out ?_; intro A11_ n11_ c11_ w11 hS; have HS := Aside.mk hS; have HT12 : Aside True := ⟨trivial⟩; clear hS HP11 HQ11)
    | (have _t := HT11; clear _t HT11; go_at_call 59; refine (HI11 _).out.mono ?_; rintro e w11a ⟨B11_, m11_, d11_, rfl, hY, hbw⟩; have HP11 := Aside.mk (HS.out.call hbw); have HQ11 := Aside.mk hY; clear hY hbw)
    | (have _t := HT10; clear _t HT10; go_at_call 60; refine (texts_any HS.out.own HS.out.base (Kd.C_move (fun k hk hl => HS.out.keeps HV.out k hk hl) HC0.out) HTD.out).mono ?_; rintro e w10 ⟨A10_, n10_, c10_, rfl, hO_, hc_, hs_⟩; have hS := HS.out.wrote hO_ hc_ hs_; have f11 : w10.cell? ⟨W.heap.size, 11, none⟩ = some (.slice A1 x.Fact.Meas.length c1) := (hS.cell 11).trans rfl; have HS := Aside.mk hS; have HT11 : Aside True := ⟨trivial⟩; clear hS hO_ hc_ hs_)
    | (refine wpList_append_bb rfl _ _ rfl (by rfl) (by rfl) HP9.out HQ9.out HY9.out HL9.out ?_; intro A9_ n9_ c9_ w9 hS; have f10 : w9.cell? ⟨W.heap.size, 10, none⟩ = some (.slice A0 x.Fact.Dims.length c0) := (hS.cell 10).trans rfl; have HS := Aside.mk hS; have HT10 : Aside True := ⟨trivial⟩; clear hS HP9 HQ9)
    | (have _t := HT9; clear _t HT9; go_at_call 58; refine (HI9 _).out.mono ?_; rintro e w9a ⟨B9_, m9_, d9_, rfl, hY, hbw⟩; have HP9 := Aside.mk (HS.out.call hbw); have HQ9 := Aside.mk hY; clear hY hbw)
    | (refine wpList_append_bb rfl _ _ rfl (by rfl) (by rfl) HP8.out HQ8.out HY8.out HL8.out ?_; intro A8_ n8_ c8_ w8 hS; have f9 : w8.cell? ⟨W.heap.size, 9, none⟩ = some (.int .i64 x.Fact.Time) := (hS.cell 9).trans rfl; have HS := Aside.mk hS; have HT9 : Aside True := ⟨trivial⟩; clear hS HP8 HQ8)
    | (have _t := HT8; clear _t HT8; go_at_call 58; refine (HI8 _).out.mono ?_; rintro e w8a ⟨B8_, m8_, d8_, rfl, hY, hbw⟩; have HP8 := Aside.mk (HS.out.call hbw); have HQ8 := Aside.mk hY; clear hY hbw)
    | (refine wpList_append_bb rfl _ _ rfl (by rfl) (by rfl) HP7.out HQ7.out HY7.out HL7.out ?_; intro A7_ n7_ c7_ w7 hS; have f8 : w7.cell? ⟨W.heap.size, 8, none⟩ = some (.int .i64 x.Code) := (hS.cell 8).trans rfl; have HS := Aside.mk hS; have HT8 : Aside True := ⟨trivial⟩; clear hS HP7 HQ7)
    | (have _t := HT7; clear _t HT7; go_at_call 59; refine (HI7 _).out.mono ?_; rintro e w7a ⟨B7_, m7_, d7_, rfl, hY, hbw⟩; have HP7 := Aside.mk (HS.out.call hbw); have HQ7 := Aside.mk hY; clear hY hbw)
    | (refine wpList_append_bb rfl _ _ rfl (by rfl) (by rfl) HP6.out HQ6.out HY6.out HL6.out ?_; intro A6_ n6_ c6_ w6 hS; have f7 : w6.cell? ⟨W.heap.size, 7, none⟩ = some (.int .u64 x.Count) := (hS.cell 7).trans rfl; have HS := Aside.mk hS; have HT7 : Aside True := ⟨trivial⟩; clear hS HP6 HQ6)
    | (have _t := HT6; clear _t HT6; go_at_call 58; refine (HI6 _).out.mono ?_; rintro e w6a ⟨B6_, m6_, d6_, rfl, hY, hbw⟩; have HP6 := Aside.mk (HS.out.call hbw); have HQ6 := Aside.mk hY; clear hY hbw)
    | (refine wpList_append_bb rfl _ _ rfl (by rfl) (by rfl) HP5.out HQ5.out HY5.out HL5.out ?_; intro A5_ n5_ c5_ w5 hS; have f6 : w5.cell? ⟨W.heap.size, 6, none⟩ = some (.int .i64 x.Term) := (hS.cell 6).trans rfl; have HS := Aside.mk hS; have HT6 : Aside True := ⟨trivial⟩; clear hS HP5 HQ5)
    | (have _t := HT5; clear _t HT5; go_at_call 59; refine (HI5 _).out.mono ?_; rintro e w5a ⟨B5_, m5_, d5_, rfl, hY, hbw⟩; have HP5 := Aside.mk (HS.out.call hbw); have HQ5 := Aside.mk hY; clear hY hbw)
    | (refine wpList_append_bb rfl _ _ rfl (by rfl) (by rfl) HP4.out HQ4.out HY4.out HL4.out ?_; intro A4_ n4_ c4_ w4 hS; have f5 : w4.cell? ⟨W.heap.size, 5, none⟩ = some (.int .u64 x.Offset) := (hS.cell 5).trans rfl; have HS := Aside.mk hS; have HT5 : Aside True := ⟨trivial⟩; clear hS HP4 HQ4)
    | (have _t := HT4; clear _t HT4; go_at_call 59; refine (HI4 _).out.mono ?_; rintro e w4a ⟨B4_, m4_, d4_, rfl, hY, hbw⟩; have HP4 := Aside.mk (HS.out.call hbw); have HQ4 := Aside.mk hY; clear hY hbw)
    | (refine wpList_append_bb rfl _ _ rfl (by rfl) (by rfl) HP3.out HQ3.out HY3.out HL3.out ?_; intro A3_ n3_ c3_ w3 hS; have f4 : w3.cell? ⟨W.heap.size, 4, none⟩ = some (.int .u64 x.Ask) := (hS.cell 4).trans rfl; have HS := Aside.mk hS; have HT4 : Aside True := ⟨trivial⟩; clear hS HP3 HQ3)
    | (have _t := HT3; clear _t HT3; go_at_call 59; refine (HI3 _).out.mono ?_; rintro e w3a ⟨B3_, m3_, d3_, rfl, hY, hbw⟩; have HP3 := Aside.mk (HS.out.call hbw); have HQ3 := Aside.mk hY; clear hY hbw)
    | (refine wpList_append_bb rfl _ _ rfl (by rfl) (by rfl) HP2.out HQ2.out HY2.out HL2.out ?_; intro A2_ n2_ c2_ w2 hS; have f3 : w2.cell? ⟨W.heap.size, 3, none⟩ = some (.int .u64 x.Id) := (hS.cell 3).trans rfl; have HS := Aside.mk hS; have HT3 : Aside True := ⟨trivial⟩; clear hS HP2 HQ2)
    | (have _t := HT2; clear _t HT2; go_at_call 58; refine (HI2 _).out.mono ?_; rintro e w2a ⟨B2_, m2_, d2_, rfl, hY, hbw⟩; have HP2 := Aside.mk (HS.out.call hbw); have HQ2 := Aside.mk hY; clear hY hbw)
    | (refine wpList_append_bb rfl _ _ rfl (by rfl) (by rfl) HP1.out HQ1.out HY1.out HL1.out ?_; intro A1_ n1_ c1_ w1 hS; have f2 : w1.cell? ⟨W.heap.size, 2, none⟩ = some (.int .i64 x.To) := (hS.cell 2).trans rfl; have HS := Aside.mk hS; have HT2 : Aside True := ⟨trivial⟩; clear hS HP1 HQ1)
    | (have _t := HT1; clear _t HT1; go_at_call 58; refine (HI1 _).out.mono ?_; rintro e w1a ⟨B1_, m1_, d1_, rfl, hY, hbw⟩; have HP1 := Aside.mk (HS.out.call hbw); have HQ1 := Aside.mk hY; clear hY hbw)
    | (refine wpList_append_bb rfl _ _ rfl (by rfl) (by rfl) HP0.out HQ0.out HY0.out HL0.out ?_; intro A0_ n0_ c0_ w0 hS; have f1 : w0.cell? ⟨W.heap.size, 1, none⟩ = some (.int .i64 x.From) := (hS.cell 1).trans rfl; have HS := Aside.mk hS; have HT1 : Aside True := ⟨trivial⟩; clear hS HP0 HQ0)
    | (have _t := HT0; clear _t HT0; go_at_call 58; refine (HI0 _).out.mono ?_; rintro e w0a ⟨B0_, m0_, d0_, rfl, hY, hbw⟩; have HP0 := Aside.mk (HS.out.call hbw); have HQ0 := Aside.mk hY; clear hY hbw))
  have HS0 : Aside (BS W w11 W.heap.size (.slice none 0 0) (.slice A11_ n11_ c11_) (bs ++ putA x) (some W.heap.size) (.cells (msgC x dr A0 A1 A2 A3 A4 A5 A6 A7 c0 c1 c2 c3 c4 c5 c6 c7) 54)) := ⟨by have := HS.out; unfold putA; simp only [List.append_assoc] at this ⊢; exact this⟩
  clear HSZ HTD HC0 HS
  go_loopw [4, 5] (fun v4 v5 wr => ∃ (i : Nat) (A : Option Addr) (n c : Nat), i ≤ x.Fact.Meas.length ∧ v4 = .slice A n c ∧ v5 = .int .i64 i ∧ Aside (BS W wr W.heap.size (.slice none 0 0) (.slice A n c) (bs ++ putA x ++ (x.Fact.Meas.take i).flatMap intV) (some W.heap.size) (.cells (msgC x dr A0 A1 A2 A3 A4 A5 A6 A7 c0 c1 c2 c3 c4 c5 c6 c7) 54))) (fun _ v5 _ => x.Fact.Meas.length - (intOf v5).toNat)
  case atStart => exact ⟨0, A11_, n11_, c11_, Nat.zero_le _, rfl, rfl, ⟨by have := HS0.out; simpa using this⟩⟩
  case round =>
    clear HS0
    obtain ⟨i, A, n, c, hi, rfl, rfl, HS⟩ := hrel
    have f11 : wr.cell? ⟨W.heap.size, 11, none⟩ = some (.slice A1 x.Fact.Meas.length c1) := (HS.out.cell 11).trans rfl
    by_cases hlt : i < x.Fact.Meas.length
    · obtain ⟨ad, cc, rfl, ⟨rfl, hw⟩, hbl, hf⟩ := cell1_all rfl HC1.out hlt
      have e1 : wr.cell? (ad.add i) = some (.int .i64 x.Fact.Meas[i]) := HS.out.at_ HV.out hbl (hf _ rfl)
      have hst := flat_step intV x.Fact.Meas i hlt
      have hle := flat_take_len intV x.Fact.Meas (i + 1)
      have HST := Aside.mk hst
      obtain ⟨y, hy⟩ : ∃ y, x.Fact.Meas[i] = y := ⟨_, rfl⟩
      rw [hy] at hw e1 HST hst
      obtain ⟨tk, htk⟩ : ∃ n, ((x.Fact.Meas.take i).flatMap intV).length = n := ⟨_, rfl⟩
      obtain ⟨ty, hty⟩ : ∃ n, (intV y).length = n := ⟨_, rfl⟩
      have HLE : Aside (tk + ty ≤ a12) := ⟨by rw [hst] at hle; simp only [List.length_append, htk, hty, LA12.out] at hle; omega⟩
      have LT := Aside.mk htk
      have LY := Aside.mk hty
      have HTa0 : Aside True := ⟨trivial⟩
      have HIa0 := fun W_ => Aside.mk (int_any y hw W_)
      have HYa0 : Aside (0 < (intV y).length) := ⟨(intV_len _).1⟩
      have HLa0 : Aside ((bs ++ putA x ++ (x.Fact.Meas.take i).flatMap intV).length + (intV y).length ≤ 140737488355328) := ⟨by have h2_ := HLE.out; have := HT.out; unfold putA; simp only [List.length_append, LB.out, LA0.out, LA1.out, LA2.out, LA3.out, LA4.out, LA5.out, LA6.out, LA7.out, LA8.out, LA9.out, LA10.out, LA11.out, LA12.out, LA13.out, LA14.out, LA15.out, LA16.out, LA17.out, LA18.out, LA19.out, LA20.out, LA21.out, LA22.out, LT.out, LY.out]; omega⟩
      clear hst hle hy hw hf hbl htk hty
      go_wp2_with (first
        | (refine wpList_append_bb rfl _ _ rfl (by rfl) (by rfl) HPa0.out HQa0.out HYa0.out HLa0.out ?_; intro Aa0_ na0_ ca0_ wa0 hS; have HS := Aside.mk hS; have HTa1 : Aside True := ⟨trivial⟩; clear hS HPa0 HQa0)
        | (have _t := HTa0; clear _t HTa0; go_at_call 58; refine (HIa0 _).out.mono ?_; rintro e wa0a ⟨Ba0_, ma0_, da0_, rfl, hY, hbw⟩; have HPa0 := Aside.mk (HS.out.call hbw); have HQa0 := Aside.mk hY; clear hY hbw))
      go_round
      case rel => exact ⟨i + 1, Aa0_, na0_, ca0_, hlt, rfl, rfl, ⟨by rw [HST.out, ← List.append_assoc]; exact HS.out⟩⟩
      case measure => simp only [intOf]; omega
    · obtain rfl : i = x.Fact.Meas.length := by omega
      have HS' := Aside.mk HS.out
      rw [List.take_length] at HS'
      clear HS
      have HS := HS'
      clear HS' HC1
      have f12 : wr.cell? ⟨W.heap.size, 12, none⟩ = some (.int .i64 x.Query.Span.From) := (HS.out.cell 12).trans rfl
      have f13 : wr.cell? ⟨W.heap.size, 13, none⟩ = some (.int .i64 x.Query.Span.To) := (HS.out.cell 13).trans rfl
      have f14 : wr.cell? ⟨W.heap.size, 14, none⟩ = some (.int .i64 x.Query.Filter.Kind) := (HS.out.cell 14).trans rfl
      have f15 : wr.cell? ⟨W.heap.size, 15, none⟩ = some (.int .i64 x.Query.Filter.Dim) := (HS.out.cell 15).trans rfl
      have f16 : wr.cell? ⟨W.heap.size, 16, none⟩ = some (.slice A2 x.Query.Filter.Texts.length c2) := (HS.out.cell 16).trans rfl
      have f17 : wr.cell? ⟨W.heap.size, 17, none⟩ = some (.int .i64 x.Query.Filter.Lo) := (HS.out.cell 17).trans rfl
      have f18 : wr.cell? ⟨W.heap.size, 18, none⟩ = some (.int .i64 x.Query.Filter.Hi) := (HS.out.cell 18).trans rfl
      have f19 : wr.cell? ⟨W.heap.size, 19, none⟩ = some (.slice A3 x.Query.Filter.Kids.length c3) := (HS.out.cell 19).trans rfl
      have f20 : wr.cell? ⟨W.heap.size, 20, none⟩ = some (.int .i64 x.Query.Grain) := (HS.out.cell 20).trans rfl
      have f21 : wr.cell? ⟨W.heap.size, 21, none⟩ = some (.slice A4 x.Query.Sets.length c4) := (HS.out.cell 21).trans rfl
      have f22 : wr.cell? ⟨W.heap.size, 22, none⟩ = some (.slice A5 x.Query.Aggs.length c5) := (HS.out.cell 22).trans rfl
      have f23 : wr.cell? ⟨W.heap.size, 23, none⟩ = some (.int .i64 x.Query.Groups) := (HS.out.cell 23).trans rfl
      have f24 : wr.cell? ⟨W.heap.size, 24, none⟩ = some (.int .i64 x.Query.Rows) := (HS.out.cell 24).trans rfl
      have HTq0 : Aside True := ⟨trivial⟩
      go_upto_if 112 with (first
        | (have _t := HTq2; clear _t HTq2; go_at_call 63; refine (span_any (x := x.Piece.Span) HS.out.own HS.out.base HW.out.2.2.2.2.2.1 HW.out.2.2.2.2.2.2 HLP.out).mono ?_; rintro e wq2 ⟨Aq2_, nq2_, cq2_, rfl, hO_, hc_, hs_⟩; have hS := HS.out.wrote hO_ hc_ hs_; have f32 : wq2.cell? ⟨W.heap.size, 32, none⟩ = some (.bool dr) := (hS.cell 32).trans rfl; have HS := Aside.mk hS; have HTq3 : Aside True := ⟨trivial⟩; clear hS hO_ hc_ hs_)
        | (have _t := HTq1; clear _t HTq1; go_at_call 62; refine (seg_any (x := x.Piece.Seg) HS.out.own HS.out.base HW.out.1 HW.out.2.1 HW.out.2.2.1 HW.out.2.2.2.1 HW.out.2.2.2.2.1 HLS.out).mono ?_; rintro e wq1 ⟨Aq1_, nq1_, cq1_, rfl, hO_, hc_, hs_⟩; have hS := HS.out.wrote hO_ hc_ hs_; have f30 : wq1.cell? ⟨W.heap.size, 30, none⟩ = some (.int .i64 x.Piece.Span.From) := (hS.cell 30).trans rfl; have f31 : wq1.cell? ⟨W.heap.size, 31, none⟩ = some (.int .i64 x.Piece.Span.To) := (hS.cell 31).trans rfl; have HS := Aside.mk hS; have HTq2 : Aside True := ⟨trivial⟩; clear hS hO_ hc_ hs_)
        | (have _t := HTq0; clear _t HTq0; go_at_call 61; refine (query_any HS.out.own HS.out.base (kQuery.move (fun k hk hl => HS.out.keeps HV.out k hk hl) HKQ.out) HLQ.out).mono ?_; rintro e wq0 ⟨Aq0_, nq0_, cq0_, rfl, hO_, hc_, hs_⟩; have hS := HS.out.wrote hO_ hc_ hs_; have f25 : wq0.cell? ⟨W.heap.size, 25, none⟩ = some (.int .i64 x.Piece.Seg.Span.From) := (hS.cell 25).trans rfl; have f26 : wq0.cell? ⟨W.heap.size, 26, none⟩ = some (.int .i64 x.Piece.Seg.Span.To) := (hS.cell 26).trans rfl; have f27 : wq0.cell? ⟨W.heap.size, 27, none⟩ = some (.int .i64 x.Piece.Seg.Version) := (hS.cell 27).trans rfl; have f28 : wq0.cell? ⟨W.heap.size, 28, none⟩ = some (.int .i64 x.Piece.Seg.Part) := (hS.cell 28).trans rfl; have f29 : wq0.cell? ⟨W.heap.size, 29, none⟩ = some (.int .i64 x.Piece.Seg.Core) := (hS.cell 29).trans rfl; have HS := Aside.mk hS; have HTq1 : Aside True := ⟨trivial⟩; clear hS hO_ hc_ hs_))
      have HS0 : Aside (BS W wq2 W.heap.size (.slice none 0 0) (.slice Aq2_ nq2_ cq2_) (bs ++ putB0 x) (some W.heap.size) (.cells (msgC x dr A0 A1 A2 A3 A4 A5 A6 A7 c0 c1 c2 c3 c4 c5 c6 c7) 54)) := ⟨by have := HS.out; unfold putB0; simp only [List.append_assoc] at this ⊢; exact this⟩
      clear HS HTq3 HLQ HLS HLP HKQ HW
      go_cut [4] (fun v4 wc => ∃ (A : Option Addr) (n c : Nat), v4 = .slice A n c ∧ Aside (BS W wc W.heap.size (.slice none 0 0) (.slice A n c) (bs ++ putB0 x ++ dropV dr) (some W.heap.size) (.cells (msgC x dr A0 A1 A2 A3 A4 A5 A6 A7 c0 c1 c2 c3 c4 c5 c6 c7) 54)))
      case first =>
        have HS := HS0
        cases dr
        · have HTz0 : Aside True := ⟨trivial⟩
          have HLz0 : Aside ((bs ++ putB0 x).length + ([.int .u8 0] : List Value).length ≤ 140737488355328) := ⟨by have h2_ : a16 = 1 := (by rw [← LA16.out]; exact dropV_len _); have := HT.out; unfold putB0 putA; simp only [List.length_append, LB.out, LA0.out, LA1.out, LA2.out, LA3.out, LA4.out, LA5.out, LA6.out, LA7.out, LA8.out, LA9.out, LA10.out, LA11.out, LA12.out, LA13.out, LA14.out, LA15.out, LA16.out, LA17.out, LA18.out, LA19.out, LA20.out, LA21.out, LA22.out, List.length_singleton]; omega⟩
          go_wp2_with (first
            | (have _t := HTz0; clear _t HTz0; refine wpList_append_bb rfl _ _ rfl (by rfl) (by rfl) (HS.out.call (below_alloc (Below.refl _ _) _)) (bb_one _ _ ⟨_, rfl⟩ (Nat.le_refl _)) (Nat.zero_lt_succ 0) HLz0.out ?_; intro Az0_ nz0_ cz0_ wz0 hS; have HS := Aside.mk hS; have HTz1 : Aside True := ⟨trivial⟩; clear hS))
          go_meet
          case rel => exact ⟨Az0_, nz0_, cz0_, rfl, ⟨HS.out⟩⟩
        · have HTz0 : Aside True := ⟨trivial⟩
          have HLz0 : Aside ((bs ++ putB0 x).length + ([.int .u8 1] : List Value).length ≤ 140737488355328) := ⟨by have h2_ : a16 = 1 := (by rw [← LA16.out]; exact dropV_len _); have := HT.out; unfold putB0 putA; simp only [List.length_append, LB.out, LA0.out, LA1.out, LA2.out, LA3.out, LA4.out, LA5.out, LA6.out, LA7.out, LA8.out, LA9.out, LA10.out, LA11.out, LA12.out, LA13.out, LA14.out, LA15.out, LA16.out, LA17.out, LA18.out, LA19.out, LA20.out, LA21.out, LA22.out, List.length_singleton]; omega⟩
          go_wp2_with (first
            | (have _t := HTz0; clear _t HTz0; refine wpList_append_bb rfl _ _ rfl (by rfl) (by rfl) (HS.out.call (below_alloc (Below.refl _ _) _)) (bb_one _ _ ⟨_, rfl⟩ (Nat.le_refl _)) (Nat.zero_lt_succ 0) HLz0.out ?_; intro Az0_ nz0_ cz0_ wz0 hS; have HS := Aside.mk hS; have HTz1 : Aside True := ⟨trivial⟩; clear hS))
          go_meet
          case rel => exact ⟨Az0_, nz0_, cz0_, rfl, ⟨HS.out⟩⟩
      case rest =>
        obtain ⟨A, n, c, rfl, HS⟩ := hcut
        clear HS0
        have f33 : wc.cell? ⟨W.heap.size, 33, none⟩ = some (.int .i64 x.Order.Seg.Span.From) := (HS.out.cell 33).trans rfl
        have f34 : wc.cell? ⟨W.heap.size, 34, none⟩ = some (.int .i64 x.Order.Seg.Span.To) := (HS.out.cell 34).trans rfl
        have f35 : wc.cell? ⟨W.heap.size, 35, none⟩ = some (.int .i64 x.Order.Seg.Version) := (HS.out.cell 35).trans rfl
        have f36 : wc.cell? ⟨W.heap.size, 36, none⟩ = some (.int .i64 x.Order.Seg.Part) := (HS.out.cell 36).trans rfl
        have f37 : wc.cell? ⟨W.heap.size, 37, none⟩ = some (.int .i64 x.Order.Seg.Core) := (HS.out.cell 37).trans rfl
        have HTr0 : Aside True := ⟨trivial⟩
        have HIr1 := fun W_ => Aside.mk (int_any x.Order.Node HWR.out.2.2.2.2.2 W_)
        have HYr1 : Aside (0 < (intV x.Order.Node).length) := ⟨(intV_len _).1⟩
        have HLr1 : Aside ((bs ++ putB0 x ++ dropV dr ++ segV x.Order.Seg).length + (intV x.Order.Node).length ≤ 140737488355328) := ⟨by have := HT.out; unfold putB0 putA; simp only [List.length_append, LB.out, LA0.out, LA1.out, LA2.out, LA3.out, LA4.out, LA5.out, LA6.out, LA7.out, LA8.out, LA9.out, LA10.out, LA11.out, LA12.out, LA13.out, LA14.out, LA15.out, LA16.out, LA17.out, LA18.out, LA19.out, LA20.out, LA21.out, LA22.out]; omega⟩
        have HIr2 := fun W_ => Aside.mk (uint_any x.Segs.length (by omega) W_)
        have HYr2 : Aside (0 < (uintV x.Segs.length).length) := ⟨(uintV_len _).1⟩
        have HLr2 : Aside ((bs ++ putB0 x ++ dropV dr ++ segV x.Order.Seg ++ intV x.Order.Node).length + (uintV x.Segs.length).length ≤ 140737488355328) := ⟨by have := HT.out; unfold putB0 putA; simp only [List.length_append, LB.out, LA0.out, LA1.out, LA2.out, LA3.out, LA4.out, LA5.out, LA6.out, LA7.out, LA8.out, LA9.out, LA10.out, LA11.out, LA12.out, LA13.out, LA14.out, LA15.out, LA16.out, LA17.out, LA18.out, LA19.out, LA20.out, LA21.out, LA22.out]; omega⟩
        go_wp2_with (first
          | (refine wpList_append_bb rfl _ _ rfl (by rfl) (by rfl) HPr2.out HQr2.out HYr2.out HLr2.out ?_; intro Ar2_ nr2_ cr2_ wr2 hS; have HS := Aside.mk hS; have HTr3 : Aside True := ⟨trivial⟩; clear hS HPr2 HQr2)
          | (have _t := HTr2; clear _t HTr2; go_at_call 59; refine (HIr2 _).out.mono ?_; rintro e wr2a ⟨Br2_, mr2_, dr2_, rfl, hY, hbw⟩; have HPr2 := Aside.mk (HS.out.call hbw); have HQr2 := Aside.mk hY; clear hY hbw)
          | (refine wpList_append_bb rfl _ _ rfl (by rfl) (by rfl) HPr1.out HQr1.out HYr1.out HLr1.out ?_; intro Ar1_ nr1_ cr1_ wr1 hS; have f39 : wr1.cell? ⟨W.heap.size, 39, none⟩ = some (.slice A6 x.Segs.length c6) := (hS.cell 39).trans rfl; have HS := Aside.mk hS; have HTr2 : Aside True := ⟨trivial⟩; clear hS HPr1 HQr1)
          | (have _t := HTr1; clear _t HTr1; go_at_call 58; refine (HIr1 _).out.mono ?_; rintro e wr1a ⟨Br1_, mr1_, dr1_, rfl, hY, hbw⟩; have HPr1 := Aside.mk (HS.out.call hbw); have HQr1 := Aside.mk hY; clear hY hbw)
          | (have _t := HTr0; clear _t HTr0; go_at_call 62; refine (seg_any (x := x.Order.Seg) HS.out.own HS.out.base HWR.out.1 HWR.out.2.1 HWR.out.2.2.1 HWR.out.2.2.2.1 HWR.out.2.2.2.2.1 HLO.out).mono ?_; rintro e wr0 ⟨Ar0_, nr0_, cr0_, rfl, hO_, hc_, hs_⟩; have hS := HS.out.wrote hO_ hc_ hs_; have f38 : wr0.cell? ⟨W.heap.size, 38, none⟩ = some (.int .i64 x.Order.Node) := (hS.cell 38).trans rfl; have HS := Aside.mk hS; have HTr1 : Aside True := ⟨trivial⟩; clear hS hO_ hc_ hs_))
        have HS0 : Aside (BS W wr2 W.heap.size (.slice none 0 0) (.slice Ar2_ nr2_ cr2_) (bs ++ putB x) (some W.heap.size) (.cells (msgC x dr A0 A1 A2 A3 A4 A5 A6 A7 c0 c1 c2 c3 c4 c5 c6 c7) 54)) := ⟨by have := HS.out; unfold putB; rw [HDR.out]; simp only [List.append_assoc] at this ⊢; exact this⟩
        clear HS HTr3 HLO HWR
        go_loopw [4, 6] (fun v4 v6 wr => ∃ (i : Nat) (A : Option Addr) (n c : Nat), i ≤ x.Segs.length ∧ v4 = .slice A n c ∧ v6 = .int .i64 i ∧ Aside (BS W wr W.heap.size (.slice none 0 0) (.slice A n c) (bs ++ putB x ++ (x.Segs.take i).flatMap segV) (some W.heap.size) (.cells (msgC x dr A0 A1 A2 A3 A4 A5 A6 A7 c0 c1 c2 c3 c4 c5 c6 c7) 54))) (fun _ v6 _ => x.Segs.length - (intOf v6).toNat)
        case atStart => exact ⟨0, Ar2_, nr2_, cr2_, Nat.zero_le _, rfl, rfl, ⟨by have := HS0.out; simpa using this⟩⟩
        case round =>
          clear HS0
          obtain ⟨i, A, n, c, hi, rfl, rfl, HS⟩ := hrel
          have f39 : wr.cell? ⟨W.heap.size, 39, none⟩ = some (.slice A6 x.Segs.length c6) := (HS.out.cell 39).trans rfl
          by_cases hlt : i < x.Segs.length
          · obtain ⟨ad, rfl, _, _, l0, l1, l2, l3, l4, hKS⟩ := kSeg_at (Kd.C_move (fun k hk hl => HS.out.keeps HV.out k hk hl) HC6.out) (Below.refl _ _) hlt
            obtain ⟨_, t1, t2, t3, t4, t5⟩ := kSeg_open hKS
            have hst := flat_step segV x.Segs i hlt
            have hle := flat_take_len segV x.Segs (i + 1)
            have HST := Aside.mk hst
            have HWS := Aside.mk (And.intro t1 (And.intro t2 (And.intro t3 (And.intro t4 t5))))
            clear hKS t1 t2 t3 t4 t5
            obtain ⟨y, hy⟩ : ∃ y, x.Segs[i] = y := ⟨_, rfl⟩
            rw [hy] at HWS l0 l1 l2 l3 l4 HST hst
            obtain ⟨tk, htk⟩ : ∃ n, ((x.Segs.take i).flatMap segV).length = n := ⟨_, rfl⟩
            obtain ⟨ty, hty⟩ : ∃ n, (segV y).length = n := ⟨_, rfl⟩
            have h2_ : tk + ty ≤ a20 := by rw [hst] at hle; simp only [List.length_append, htk, hty, LA20.out] at hle; omega
            have HLE : Aside ((bs ++ putB x ++ (x.Segs.take i).flatMap segV ++ segV y).length + 100 ≤ 140737488355328) := ⟨by have := HT.out; unfold putB putB0 putA; simp only [List.length_append, LB.out, LA0.out, LA1.out, LA2.out, LA3.out, LA4.out, LA5.out, LA6.out, LA7.out, LA8.out, LA9.out, LA10.out, LA11.out, LA12.out, LA13.out, LA14.out, LA15.out, LA16.out, LA17.out, LA18.out, LA19.out, LA20.out, LA21.out, LA22.out, HDR.out, htk, hty]; omega⟩
            clear h2_ htk hty
            have HTs0 : Aside True := ⟨trivial⟩
            clear hst hle hy
            go_wp2_with (first
              | (have _t := HTs0; clear _t HTs0; go_at_call 62; refine (seg_any (x := y) HS.out.own HS.out.base HWS.out.1 HWS.out.2.1 HWS.out.2.2.1 HWS.out.2.2.2.1 HWS.out.2.2.2.2 HLE.out).mono ?_; rintro e ws0 ⟨As0_, ns0_, cs0_, rfl, hO_, hc_, hs_⟩; have hS := HS.out.wrote hO_ hc_ hs_; have HS := Aside.mk hS; have HTs1 : Aside True := ⟨trivial⟩; clear hS hO_ hc_ hs_))
            go_round
            case rel => exact ⟨i + 1, As0_, ns0_, cs0_, hlt, rfl, rfl, ⟨by rw [HST.out, ← List.append_assoc]; exact HS.out⟩⟩
            case measure => simp only [intOf]; omega
          · obtain rfl : i = x.Segs.length := by omega
            have HS' := Aside.mk HS.out
            rw [List.take_length] at HS'
            clear HS
            have HS := HS'
            clear HS' HC6
            have f40 : wr.cell? ⟨W.heap.size, 40, none⟩ = some (.slice A7 x.Groups.length c7) := (HS.out.cell 40).trans rfl
            have HTt0 : Aside True := ⟨trivial⟩
            have HIt0 := fun W_ => Aside.mk (uint_any x.Groups.length (by omega) W_)
            have HYt0 : Aside (0 < (uintV x.Groups.length).length) := ⟨(uintV_len _).1⟩
            have HLt0 : Aside ((bs ++ putB x ++ x.Segs.flatMap segV).length + (uintV x.Groups.length).length ≤ 140737488355328) := ⟨by have := HT.out; unfold putB putB0 putA; simp only [List.length_append, LB.out, LA0.out, LA1.out, LA2.out, LA3.out, LA4.out, LA5.out, LA6.out, LA7.out, LA8.out, LA9.out, LA10.out, LA11.out, LA12.out, LA13.out, LA14.out, LA15.out, LA16.out, LA17.out, LA18.out, LA19.out, LA20.out, LA21.out, LA22.out, HDR.out]; omega⟩
            go_wp2_with (first
              | (refine wpList_append_bb rfl _ _ rfl (by rfl) (by rfl) HPt0.out HQt0.out HYt0.out HLt0.out ?_; intro At0_ nt0_ ct0_ wt0 hS; have HS := Aside.mk hS; have HTt1 : Aside True := ⟨trivial⟩; clear hS HPt0 HQt0)
              | (have _t := HTt0; clear _t HTt0; go_at_call 59; refine (HIt0 _).out.mono ?_; rintro e wt0a ⟨Bt0_, mt0_, dt0_, rfl, hY, hbw⟩; have HPt0 := Aside.mk (HS.out.call hbw); have HQt0 := Aside.mk hY; clear hY hbw))
            have HS0 : Aside (BS W wt0 W.heap.size (.slice none 0 0) (.slice At0_ nt0_ ct0_) (bs ++ putC x) (some W.heap.size) (.cells (msgC x dr A0 A1 A2 A3 A4 A5 A6 A7 c0 c1 c2 c3 c4 c5 c6 c7) 54)) := ⟨by have := HS.out; unfold putC; simp only [List.append_assoc] at this ⊢; exact this⟩
            clear HS HTt1
            go_loopw [4, 7] (fun v4 v7 wr => ∃ (i : Nat) (A : Option Addr) (n c : Nat), i ≤ x.Groups.length ∧ v4 = .slice A n c ∧ v7 = .int .i64 i ∧ Aside (BS W wr W.heap.size (.slice none 0 0) (.slice A n c) (bs ++ putC x ++ (x.Groups.take i).flatMap groupV) (some W.heap.size) (.cells (msgC x dr A0 A1 A2 A3 A4 A5 A6 A7 c0 c1 c2 c3 c4 c5 c6 c7) 54))) (fun _ v7 _ => x.Groups.length - (intOf v7).toNat)
            case atStart => exact ⟨0, At0_, nt0_, ct0_, Nat.zero_le _, rfl, rfl, ⟨by have := HS0.out; simpa using this⟩⟩
            case round =>
              clear HS0
              obtain ⟨i, A, n, c, hi, rfl, rfl, HSO⟩ := hrel
              have f40 : wr.cell? ⟨W.heap.size, 40, none⟩ = some (.slice A7 x.Groups.length c7) := (HSO.out.cell 40).trans rfl
              by_cases hlt : i < x.Groups.length
              · obtain ⟨ad, B0, d0, B1, d1, rfl, _, _, l0, l1, l2, l3, hKG⟩ := kGroup_at (Kd.C_move (fun k hk hl => HSO.out.keeps HV.out k hk hl) HC7.out) (Below.refl _ _) hlt
                obtain ⟨B0', d0', B1', d1', e, g1, g2, ⟨_, _, gC0⟩, ⟨_, _, gC1⟩⟩ := kGroup_open hKG
                injection e with _ e
                injection e with _ e
                injection e with e2 e
                injection e with e3 _
                injection e2 with e21 _ e23
                injection e3 with e31 _ e33
                subst e21 e23 e31 e33
                have hst := flat_step groupV x.Groups i hlt
                have hle := flat_take_len groupV x.Groups (i + 1)
                have HST := Aside.mk hst
                obtain ⟨y, hy⟩ : ∃ y, x.Groups[i] = y := ⟨_, rfl⟩
                rw [hy] at l0 l1 l2 l3 g1 g2 gC0 gC1 HST hst
                obtain ⟨tg, htg⟩ : ∃ n, ((x.Groups.take i).flatMap groupV).length = n := ⟨_, rfl⟩
                obtain ⟨b0, hb0⟩ : ∃ n, (intV y.Key.Set).length = n := ⟨_, rfl⟩
                obtain ⟨b1, hb1⟩ : ∃ n, (intV y.Key.Bucket).length = n := ⟨_, rfl⟩
                obtain ⟨b2, hb2⟩ : ∃ n, (textsV y.Key.Dims).length = n := ⟨_, rfl⟩
                obtain ⟨b3, hb3⟩ : ∃ n, (uintV y.Parts.length).length = n := ⟨_, rfl⟩
                obtain ⟨bp, hbp⟩ : ∃ n, (y.Parts.flatMap partV).length = n := ⟨_, rfl⟩
                have hgl : (groupV y).length = b0 + b1 + b2 + b3 + bp := by
                  show (groupH y ++ y.Parts.flatMap partV).length = _
                  unfold groupH
                  simp only [List.length_append, hb0, hb1, hb2, hb3, hbp]
                have HLG : Aside (tg + b0 + b1 + b2 + b3 + bp ≤ a22) := ⟨by rw [hst, List.length_append, htg, LA22.out, hgl] at hle; omega⟩
                have LTG := Aside.mk htg
                have LG0 := Aside.mk hb0
                have LG1 := Aside.mk hb1
                have LG2 := Aside.mk hb2
                have LG3 := Aside.mk hb3
                have LGP := Aside.mk hbp
                have HG := Aside.mk (And.intro g1 (And.intro g2 (And.intro gC0 gC1)))
                have hkp : y.Parts.length ≤ 9223372036854775807 := gC1.2.1
                have hwp : IntKind.u64.wrap (y.Parts.length : Int) = y.Parts.length := by rw [IntKind.wrap_u64]; omega
                clear hst hle hy htg hb0 hb1 hb2 hb3 hbp hgl g1 g2 gC0 gC1 hKG
                go_upto_region 38 with fail
                generalize hV : wr.alloc _ = V
                have hVb : Below wr.heap.size wr V := by rw [← hV]; exact below_alloc (Below.refl _ _) _
                have hVx : V.heap[wr.heap.size]? = some (.cells (groupC y B0 B1 d0 d1) 128 (0, 0)) := by rw [← hV]; exact blk_new wr _
                have HSV := Aside.mk (HSO.out.call hVb)
                have HV2 : Aside (∀ k, (Value.slice A n c).ownBlock = some k → W.heap.size ≤ k) := ⟨fun k hk => (HSO.out.own.lt k hk).1⟩
                have HS := Aside.mk (HSO.out.beside hVb hVx)
                have HCD := Aside.mk (Kd.C_below HG.out.2.2.1 hVb)
                have HCP := Aside.mk (Kd.C_below HG.out.2.2.2 hVb)
                clear hV hVb hVx HSO f40 l0 l1 l2 l3
                generalize wr.heap.size = gg at *
                have k0 : V.cell? ⟨gg, 0, none⟩ = some (.int .i64 y.Key.Set) := (HS.out.cell 0).trans rfl
                have HTG : Aside ((bs ++ putC x ++ (x.Groups.take i).flatMap groupV ++ intV y.Key.Set ++ intV y.Key.Bucket).length + (textsV y.Key.Dims).length + 100 ≤ 140737488355328) := ⟨by have h3_ := HLG.out; have := HT.out; unfold putC putB putB0 putA; simp only [List.length_append, LB.out, LA0.out, LA1.out, LA2.out, LA3.out, LA4.out, LA5.out, LA6.out, LA7.out, LA8.out, LA9.out, LA10.out, LA11.out, LA12.out, LA13.out, LA14.out, LA15.out, LA16.out, LA17.out, LA18.out, LA19.out, LA20.out, LA21.out, LA22.out, HDR.out, LTG.out, LG0.out, LG1.out, LG2.out, LG3.out]; omega⟩
                have HTg0 : Aside True := ⟨trivial⟩
                have HIg0 := fun W_ => Aside.mk (int_any y.Key.Set HG.out.1 W_)
                have HYg0 : Aside (0 < (intV y.Key.Set).length) := ⟨(intV_len _).1⟩
                have HLg0 : Aside ((bs ++ putC x ++ (x.Groups.take i).flatMap groupV).length + (intV y.Key.Set).length ≤ 140737488355328) := ⟨by have h3_ := HLG.out; have := HT.out; unfold putC putB putB0 putA; simp only [List.length_append, LB.out, LA0.out, LA1.out, LA2.out, LA3.out, LA4.out, LA5.out, LA6.out, LA7.out, LA8.out, LA9.out, LA10.out, LA11.out, LA12.out, LA13.out, LA14.out, LA15.out, LA16.out, LA17.out, LA18.out, LA19.out, LA20.out, LA21.out, LA22.out, HDR.out, LTG.out, LG0.out, LG1.out, LG2.out, LG3.out]; omega⟩
                have HIg1 := fun W_ => Aside.mk (int_any y.Key.Bucket HG.out.2.1 W_)
                have HYg1 : Aside (0 < (intV y.Key.Bucket).length) := ⟨(intV_len _).1⟩
                have HLg1 : Aside ((bs ++ putC x ++ (x.Groups.take i).flatMap groupV ++ intV y.Key.Set).length + (intV y.Key.Bucket).length ≤ 140737488355328) := ⟨by have h3_ := HLG.out; have := HT.out; unfold putC putB putB0 putA; simp only [List.length_append, LB.out, LA0.out, LA1.out, LA2.out, LA3.out, LA4.out, LA5.out, LA6.out, LA7.out, LA8.out, LA9.out, LA10.out, LA11.out, LA12.out, LA13.out, LA14.out, LA15.out, LA16.out, LA17.out, LA18.out, LA19.out, LA20.out, LA21.out, LA22.out, HDR.out, LTG.out, LG0.out, LG1.out, LG2.out, LG3.out]; omega⟩
                have HIg3 := fun W_ => Aside.mk (uint_any y.Parts.length (by omega) W_)
                have HYg3 : Aside (0 < (uintV y.Parts.length).length) := ⟨(uintV_len _).1⟩
                have HLg3 : Aside ((bs ++ putC x ++ (x.Groups.take i).flatMap groupV ++ intV y.Key.Set ++ intV y.Key.Bucket ++ textsV y.Key.Dims).length + (uintV y.Parts.length).length ≤ 140737488355328) := ⟨by have h3_ := HLG.out; have := HT.out; unfold putC putB putB0 putA; simp only [List.length_append, LB.out, LA0.out, LA1.out, LA2.out, LA3.out, LA4.out, LA5.out, LA6.out, LA7.out, LA8.out, LA9.out, LA10.out, LA11.out, LA12.out, LA13.out, LA14.out, LA15.out, LA16.out, LA17.out, LA18.out, LA19.out, LA20.out, LA21.out, LA22.out, HDR.out, LTG.out, LG0.out, LG1.out, LG2.out, LG3.out]; omega⟩
                go_wp2_with (first
                  | (refine wpList_append_bb rfl _ _ rfl (by rfl) (by rfl) HPg3.out HQg3.out HYg3.out HLg3.out ?_; intro Ag3_ ng3_ cg3_ wg3 hS; have HS := Aside.mk hS; have HTg4 : Aside True := ⟨trivial⟩; clear hS HPg3 HQg3)
                  | (have _t := HTg3; clear _t HTg3; go_at_call 59; refine (HIg3 _).out.mono ?_; rintro e wg3a ⟨Bg3_, mg3_, dg3_, rfl, hY, hbw⟩; have HPg3 := Aside.mk (HS.out.call hbw); have HQg3 := Aside.mk hY; clear hY hbw)
                  | (have _t := HTg2; clear _t HTg2; go_at_call 60; refine (texts_any HS.out.own HS.out.base (Kd.C_move (fun k hk hl => HS.out.keeps HV2.out k hk hl) HCD.out) HTG.out).mono ?_; rintro e wg2 ⟨Ag2_, ng2_, cg2_, rfl, hO_, hc_, hs_⟩; have hS := HS.out.wrote hO_ hc_ hs_; have k3 : wg2.cell? ⟨gg, 3, none⟩ = some (.slice B1 y.Parts.length d1) := (hS.cell 3).trans rfl; have HS := Aside.mk hS; have HTg3 : Aside True := ⟨trivial⟩; clear hS hO_ hc_ hs_)
                  | (refine wpList_append_bb rfl _ _ rfl (by rfl) (by rfl) HPg1.out HQg1.out HYg1.out HLg1.out ?_; intro Ag1_ ng1_ cg1_ wg1 hS; have k2 : wg1.cell? ⟨gg, 2, none⟩ = some (.slice B0 y.Key.Dims.length d0) := (hS.cell 2).trans rfl; have HS := Aside.mk hS; have HTg2 : Aside True := ⟨trivial⟩; clear hS HPg1 HQg1)
                  | (have _t := HTg1; clear _t HTg1; go_at_call 58; refine (HIg1 _).out.mono ?_; rintro e wg1a ⟨Bg1_, mg1_, dg1_, rfl, hY, hbw⟩; have HPg1 := Aside.mk (HS.out.call hbw); have HQg1 := Aside.mk hY; clear hY hbw)
                  | (refine wpList_append_bb rfl _ _ rfl (by rfl) (by rfl) HPg0.out HQg0.out HYg0.out HLg0.out ?_; intro Ag0_ ng0_ cg0_ wg0 hS; have k1 : wg0.cell? ⟨gg, 1, none⟩ = some (.int .i64 y.Key.Bucket) := (hS.cell 1).trans rfl; have HS := Aside.mk hS; have HTg1 : Aside True := ⟨trivial⟩; clear hS HPg0 HQg0)
                  | (have _t := HTg0; clear _t HTg0; go_at_call 58; refine (HIg0 _).out.mono ?_; rintro e wg0a ⟨Bg0_, mg0_, dg0_, rfl, hY, hbw⟩; have HPg0 := Aside.mk (HS.out.call hbw); have HQg0 := Aside.mk hY; clear hY hbw))
                have HS0 : Aside (BS V wg3 W.heap.size (.slice A n c) (.slice Ag3_ ng3_ cg3_) (bs ++ putC x ++ (x.Groups.take i).flatMap groupV ++ groupH y) (some gg) (.cells (groupC y B0 B1 d0 d1) 128)) := ⟨by have := HS.out; unfold groupH; simp only [List.append_assoc] at this ⊢; exact this⟩
                clear HS HTg4
                go_loopw [4, 9] (fun v4 v9 wr => ∃ (k : Nat) (A' : Option Addr) (n' c' : Nat), k ≤ y.Parts.length ∧ v4 = .slice A' n' c' ∧ v9 = .int .i64 k ∧ Aside (BS V wr W.heap.size (.slice A n c) (.slice A' n' c') (bs ++ putC x ++ (x.Groups.take i).flatMap groupV ++ groupH y ++ (y.Parts.take k).flatMap partV) (some gg) (.cells (groupC y B0 B1 d0 d1) 128))) (fun _ v9 _ => y.Parts.length - (intOf v9).toNat)
                case atStart => exact ⟨0, Ag3_, ng3_, cg3_, Nat.zero_le _, rfl, rfl, ⟨by have := HS0.out; simpa using this⟩⟩
                case round =>
                  clear HS0
                  obtain ⟨k, A', n', c', hk, rfl, rfl, HS⟩ := hrel
                  have k3 : wr.cell? ⟨gg, 3, none⟩ = some (.slice B1 y.Parts.length d1) := (HS.out.cell 3).trans rfl
                  by_cases hlt2 : k < y.Parts.length
                  · obtain ⟨ad2, D0, m0, rfl, hF2, _, p0, p1, p2, hKP⟩ := kPartial_at HCP.out (Below.refl _ _) hlt2
                    obtain ⟨D0', m0', e, t1, t2, ⟨_, _, tC⟩⟩ := kPartial_open hKP
                    injection e with _ e
                    injection e with _ e
                    injection e with e3 _
                    injection e3 with e31 _ e33
                    subst e31 e33
                    have HBK := Aside.mk (And.intro (show (ad2.add (k * 3)).block < W.heap.size by rw [Kd.add_block]; exact hF2) (And.intro p0 (And.intro p1 p2)))
                    have q0 : wr.cell? (ad2.add (k * 3)) = some (.int .u64 y.Parts[k].N) := HS.out.at_ HV2.out HBK.out.1 p0
                    have hst := flat_step partV y.Parts k hlt2
                    have hle := flat_take_len partV y.Parts (k + 1)
                    have HST2 := Aside.mk hst
                    clear p0 p1 p2 hKP hF2
                    obtain ⟨z, hz⟩ : ∃ z, y.Parts[k] = z := ⟨_, rfl⟩
                    rw [hz] at HBK q0 t1 t2 tC HST2 hst
                    obtain ⟨tp, htp⟩ : ∃ n, ((y.Parts.take k).flatMap partV).length = n := ⟨_, rfl⟩
                    obtain ⟨z0, hz0⟩ : ∃ n, (uintV z.N.toNat).length = n := ⟨_, rfl⟩
                    obtain ⟨z1, hz1⟩ : ∃ n, (intV z.V).length = n := ⟨_, rfl⟩
                    obtain ⟨z2, hz2⟩ : ∃ n, (textsV z.Texts).length = n := ⟨_, rfl⟩
                    have hpl : (partV z).length = z0 + z1 + z2 := by unfold partV; simp only [List.length_append, hz0, hz1, hz2]
                    have HLP2 : Aside (tp + z0 + z1 + z2 ≤ bp) := ⟨by rw [hst, List.length_append, htp, LGP.out, hpl] at hle; omega⟩
                    have LTP := Aside.mk htp
                    have LZ0 := Aside.mk hz0
                    have LZ1 := Aside.mk hz1
                    have LZ2 := Aside.mk hz2
                    have HZ := Aside.mk (And.intro t1 (And.intro t2 tC))
                    clear hst hle hz htp hz0 hz1 hz2 hpl t1 t2 tC
                    have HTZ : Aside ((bs ++ putC x ++ (x.Groups.take i).flatMap groupV ++ groupH y ++ (y.Parts.take k).flatMap partV ++ uintV z.N.toNat ++ intV z.V).length + (textsV z.Texts).length + 100 ≤ 140737488355328) := ⟨by have h3_ := HLG.out; have h4_ := HLP2.out; unfold groupH; have := HT.out; unfold putC putB putB0 putA; simp only [List.length_append, LB.out, LA0.out, LA1.out, LA2.out, LA3.out, LA4.out, LA5.out, LA6.out, LA7.out, LA8.out, LA9.out, LA10.out, LA11.out, LA12.out, LA13.out, LA14.out, LA15.out, LA16.out, LA17.out, LA18.out, LA19.out, LA20.out, LA21.out, LA22.out, HDR.out, LTG.out, LG0.out, LG1.out, LG2.out, LG3.out, LTP.out, LZ0.out, LZ1.out, LZ2.out]; omega⟩
                    have HTp0 : Aside True := ⟨trivial⟩
                    have HIp0 := fun W_ => Aside.mk (uinti_any z.N HZ.out.1 W_)
                    have HYp0 : Aside (0 < (uintV z.N.toNat).length) := ⟨(uintV_len _).1⟩
                    have HLp0 : Aside ((bs ++ putC x ++ (x.Groups.take i).flatMap groupV ++ groupH y ++ (y.Parts.take k).flatMap partV).length + (uintV z.N.toNat).length ≤ 140737488355328) := ⟨by have h3_ := HLG.out; have h4_ := HLP2.out; unfold groupH; have := HT.out; unfold putC putB putB0 putA; simp only [List.length_append, LB.out, LA0.out, LA1.out, LA2.out, LA3.out, LA4.out, LA5.out, LA6.out, LA7.out, LA8.out, LA9.out, LA10.out, LA11.out, LA12.out, LA13.out, LA14.out, LA15.out, LA16.out, LA17.out, LA18.out, LA19.out, LA20.out, LA21.out, LA22.out, HDR.out, LTG.out, LG0.out, LG1.out, LG2.out, LG3.out, LTP.out, LZ0.out, LZ1.out, LZ2.out]; omega⟩
                    have HIp1 := fun W_ => Aside.mk (int_any z.V HZ.out.2.1 W_)
                    have HYp1 : Aside (0 < (intV z.V).length) := ⟨(intV_len _).1⟩
                    have HLp1 : Aside ((bs ++ putC x ++ (x.Groups.take i).flatMap groupV ++ groupH y ++ (y.Parts.take k).flatMap partV ++ uintV z.N.toNat).length + (intV z.V).length ≤ 140737488355328) := ⟨by have h3_ := HLG.out; have h4_ := HLP2.out; unfold groupH; have := HT.out; unfold putC putB putB0 putA; simp only [List.length_append, LB.out, LA0.out, LA1.out, LA2.out, LA3.out, LA4.out, LA5.out, LA6.out, LA7.out, LA8.out, LA9.out, LA10.out, LA11.out, LA12.out, LA13.out, LA14.out, LA15.out, LA16.out, LA17.out, LA18.out, LA19.out, LA20.out, LA21.out, LA22.out, HDR.out, LTG.out, LG0.out, LG1.out, LG2.out, LG3.out, LTP.out, LZ0.out, LZ1.out, LZ2.out]; omega⟩
                    go_wp2_with (first
                      | (have _t := HTp2; clear _t HTp2; go_at_call 60; refine (texts_any HS.out.own HS.out.base (Kd.C_move (fun k hk hl => HS.out.keeps HV2.out k hk hl) HZ.out.2.2) HTZ.out).mono ?_; rintro e wp2 ⟨Ap2_, np2_, cp2_, rfl, hO_, hc_, hs_⟩; have hS := HS.out.wrote hO_ hc_ hs_; have q1 : wp2.cell? ⟨(ad2.add (k * 3)).block, (ad2.add (k * 3)).off + 1, none⟩ = some (.int .i64 z.V) := hS.at_ HV2.out HBK.out.1 HBK.out.2.2.1; have q2 : wp2.cell? ⟨(ad2.add (k * 3)).block, (ad2.add (k * 3)).off + 2, none⟩ = some (.slice D0 z.Texts.length m0) := hS.at_ HV2.out HBK.out.1 HBK.out.2.2.2; have HS := Aside.mk hS; have HTp3 : Aside True := ⟨trivial⟩; clear hS hO_ hc_ hs_)
                      | (refine wpList_append_bb rfl _ _ rfl (by rfl) (by rfl) HPp1.out HQp1.out HYp1.out HLp1.out ?_; intro Ap1_ np1_ cp1_ wp1 hS; have k3 : wp1.cell? ⟨gg, 3, none⟩ = some (.slice (some ad2) y.Parts.length d1) := (hS.cell 3).trans rfl; have q1 : wp1.cell? ⟨(ad2.add (k * 3)).block, (ad2.add (k * 3)).off + 1, none⟩ = some (.int .i64 z.V) := hS.at_ HV2.out HBK.out.1 HBK.out.2.2.1; have q2 : wp1.cell? ⟨(ad2.add (k * 3)).block, (ad2.add (k * 3)).off + 2, none⟩ = some (.slice D0 z.Texts.length m0) := hS.at_ HV2.out HBK.out.1 HBK.out.2.2.2; have HS := Aside.mk hS; have HTp2 : Aside True := ⟨trivial⟩; clear hS HPp1 HQp1)
                      | (have _t := HTp1; clear _t HTp1; go_at_call 58; refine (HIp1 _).out.mono ?_; rintro e wp1a ⟨Bp1_, mp1_, dp1_, rfl, hY, hbw⟩; have HPp1 := Aside.mk (HS.out.call hbw); have HQp1 := Aside.mk hY; clear hY hbw)
                      | (refine wpList_append_bb rfl _ _ rfl (by rfl) (by rfl) HPp0.out HQp0.out HYp0.out HLp0.out ?_; intro Ap0_ np0_ cp0_ wp0 hS; have k3 : wp0.cell? ⟨gg, 3, none⟩ = some (.slice (some ad2) y.Parts.length d1) := (hS.cell 3).trans rfl; have q1 : wp0.cell? ⟨(ad2.add (k * 3)).block, (ad2.add (k * 3)).off + 1, none⟩ = some (.int .i64 z.V) := hS.at_ HV2.out HBK.out.1 HBK.out.2.2.1; have q2 : wp0.cell? ⟨(ad2.add (k * 3)).block, (ad2.add (k * 3)).off + 2, none⟩ = some (.slice D0 z.Texts.length m0) := hS.at_ HV2.out HBK.out.1 HBK.out.2.2.2; have HS := Aside.mk hS; have HTp1 : Aside True := ⟨trivial⟩; clear hS HPp0 HQp0)
                      | (have _t := HTp0; clear _t HTp0; go_at_call 59; refine (HIp0 _).out.mono ?_; rintro e wp0a ⟨Bp0_, mp0_, dp0_, rfl, hY, hbw⟩; have HPp0 := Aside.mk (HS.out.call hbw); have HQp0 := Aside.mk hY; clear hY hbw))
                    go_round
                    case rel => exact ⟨k + 1, Ap2_, np2_, cp2_, hlt2, rfl, rfl, ⟨by have := HS.out; rw [HST2.out, show partV z = uintV z.N.toNat ++ intV z.V ++ textsV z.Texts from rfl]; simp only [List.append_assoc] at this ⊢; exact this⟩⟩
                    case measure => simp only [intOf]; omega
                  · obtain rfl : k = y.Parts.length := by omega
                    have HSX : Aside (BS W wr W.heap.size (.slice none 0 0) (.slice A' n' c') (bs ++ putC x ++ (x.Groups.take (i + 1)).flatMap groupV) (some W.heap.size) (.cells (msgC x dr A0 A1 A2 A3 A4 A5 A6 (some ad) c0 c1 c2 c3 c4 c5 c6 c7) 54)) := ⟨by
                      have := HSV.out.back HS.out
                      rw [List.take_length] at this
                      rw [HST.out, show groupV y = groupH y ++ y.Parts.flatMap partV from rfl]
                      simp only [List.append_assoc] at this ⊢
                      exact this⟩
                    clear HS HSV
                    go_wp2
                    go_round
                    case rel => exact ⟨i + 1, A', n', c', hlt, rfl, rfl, HSX⟩
                    case measure => simp only [intOf]; omega
              · obtain rfl : i = x.Groups.length := by omega
                have hB : BB wr W.heap.size (.slice A n c) (putV x) := by
                  have := HSO.out.own
                  rw [List.take_length, ← HBS.out] at this
                  unfold putV
                  simpa using this
                have hn := hB.len
                have HBB := Aside.mk (And.intro hB (HSO.out.below HV.out (Nat.le_refl _)))
                by_cases hle : n ≤ 1048576
                · have hok : putOk x = true := by rw [HOK.out]; exact decide_eq_true (by omega)
                  have HK := Aside.mk hok
                  have hgt : ¬ (1048576 : Int) < (n : Int) := by omega
                  clear hB hn hok hle
                  go_wp2
                  refine bodyPost_ret (results_tmp2 rfl _ _ _) rfl ?_
                  exact ⟨A, n, c, by rw [HK.out]; rfl, by rw [HK.out]; exact HBB.out.1, HBB.out.2⟩
                · have hok : putOk x = false := by rw [HOK.out]; exact decide_eq_false (by omega)
                  have HK := Aside.mk hok
                  have hgt : (1048576 : Int) < (n : Int) := by omega
                  clear hB hn hok hle
                  go_wp2
                  refine bodyPost_ret (results_tmp2 rfl _ _ _) rfl ?_
                  exact ⟨none, 0, 0, by rw [HK.out]; rfl, by rw [HK.out]; exact BB.nil _ _, HBB.out.2⟩
end Go.Proofs.Ytjpeaeklhcnpnaa.K
