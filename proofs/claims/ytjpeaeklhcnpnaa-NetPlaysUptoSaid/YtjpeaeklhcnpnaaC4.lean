/- net.own by a contract: words. No condition. -/
import Derived.Test.YtjpeaeklhcnpnaaC3
namespace Go.Proofs.Ytjpeaeklhcnpnaa.K
open Go.RowKit
set_option linter.unusedVariables false
set_option linter.unusedSimpArgs false
/-- A message's cells, but for its slices. -/
def mC (x : Msg) (d m t k s a g p : Value) : Array Value :=
  #[.int .i64 x.Kind, .int .i64 x.From, .int .i64 x.To, .int .u64 x.Id, .int .u64 x.Ask, .int .u64 x.Offset, .int .i64 x.Term, .int .u64 x.Count, .int .i64 x.Code, .int .i64 x.Fact.Time, d, m,
    .int .i64 x.Query.Span.From, .int .i64 x.Query.Span.To, .int .i64 x.Query.Filter.Kind, .int .i64 x.Query.Filter.Dim, t, .int .i64 x.Query.Filter.Lo, .int .i64 x.Query.Filter.Hi, k, .int .i64 x.Query.Grain, s, a, .int .i64 x.Query.Groups, .int .i64 x.Query.Rows,
    .int .i64 x.Piece.Seg.Span.From, .int .i64 x.Piece.Seg.Span.To, .int .i64 x.Piece.Seg.Version, .int .i64 x.Piece.Seg.Part, .int .i64 x.Piece.Seg.Core, .int .i64 x.Piece.Span.From, .int .i64 x.Piece.Span.To, .bool x.Order.Drop,
    .int .i64 x.Order.Seg.Span.From, .int .i64 x.Order.Seg.Span.To, .int .i64 x.Order.Seg.Version, .int .i64 x.Order.Seg.Part, .int .i64 x.Order.Seg.Core, .int .i64 x.Order.Node, g, p]
def mZ : Array Value := mC zMsg (.slice none 0 0) (.slice none 0 0) (.slice none 0 0) (.slice none 0 0) (.slice none 0 0) (.slice none 0 0) (.slice none 0 0) (.slice none 0 0)
theorem mC_size (x : Msg) (d m t k s a g p : Value) : (mC x d m t k s a g p).size = 41 := rfl
/-- The whole numbers of a message fit their kinds. -/
def mNums (x : Msg) : Prop :=
  (Lit.int .i64 x.Kind).wf = true ∧ (Lit.int .i64 x.From).wf = true ∧ (Lit.int .i64 x.To).wf = true ∧ (Lit.int .u64 x.Id).wf = true ∧ (Lit.int .u64 x.Ask).wf = true ∧ (Lit.int .u64 x.Offset).wf = true ∧ (Lit.int .i64 x.Term).wf = true ∧ (Lit.int .u64 x.Count).wf = true ∧ (Lit.int .i64 x.Code).wf = true ∧
  (Lit.int .i64 x.Query.Span.From).wf = true ∧ (Lit.int .i64 x.Query.Span.To).wf = true ∧ (Lit.int .i64 x.Query.Grain).wf = true ∧ (Lit.int .i64 x.Query.Groups).wf = true ∧ (Lit.int .i64 x.Query.Rows).wf = true ∧
  (Lit.int .i64 x.Piece.Seg.Span.From).wf = true ∧ (Lit.int .i64 x.Piece.Seg.Span.To).wf = true ∧ (Lit.int .i64 x.Piece.Seg.Version).wf = true ∧ (Lit.int .i64 x.Piece.Seg.Part).wf = true ∧ (Lit.int .i64 x.Piece.Seg.Core).wf = true ∧ (Lit.int .i64 x.Piece.Span.From).wf = true ∧ (Lit.int .i64 x.Piece.Span.To).wf = true ∧
  (Lit.int .i64 x.Order.Seg.Span.From).wf = true ∧ (Lit.int .i64 x.Order.Seg.Span.To).wf = true ∧ (Lit.int .i64 x.Order.Seg.Version).wf = true ∧ (Lit.int .i64 x.Order.Seg.Part).wf = true ∧ (Lit.int .i64 x.Order.Seg.Core).wf = true ∧ (Lit.int .i64 x.Order.Node).wf = true
/-- What a message's slices say. -/
def mFact (x : Msg) (w : World) (F : Nat → Prop) (d m : Value) : Prop := kFact.K w F x.Fact [.int .i64 x.Fact.Time, d, m]
def mFilter (x : Msg) (w : World) (F : Nat → Prop) (t k : Value) : Prop := kFilter.K w F x.Query.Filter [.int .i64 x.Query.Filter.Kind, .int .i64 x.Query.Filter.Dim, t, .int .i64 x.Query.Filter.Lo, .int .i64 x.Query.Filter.Hi, k]
def mSets (x : Msg) (w : World) (F : Nat → Prop) (s : Value) : Prop := (Kd.slice 24 (Kd.slice 8 (Kd.int .i64))).K w F x.Query.Sets [s]
def mAggs (x : Msg) (w : World) (F : Nat → Prop) (a : Value) : Prop := (Kd.slice 16 kAgg).K w F x.Query.Aggs [a]
def mSegs (x : Msg) (w : World) (F : Nat → Prop) (g : Value) : Prop := (Kd.slice 40 kSeg).K w F x.Segs [g]
def mGroups (x : Msg) (w : World) (F : Nat → Prop) (p : Value) : Prop := (Kd.slice 64 kGroup).K w F x.Groups [p]
theorem kMsg_parts {w : World} {F : Nat → Prop} {x : Msg} {cs : List Value} (h : kMsg.K w F x cs) : ∃ d m t k s a g p, cs = (mC x d m t k s a g p).toList ∧ mNums x ∧ mFact x w F d m ∧ mFilter x w F t k ∧ mSets x w F s ∧ mAggs x w F a ∧ mSegs x w F g ∧ mGroups x w F p := by
  obtain ⟨A0, c0, A1, c1, A2, c2, A3, c3, A4, c4, A5, c5, A6, c6, A7, c7, rfl, n1, n2, n3, n4, n5, n6, n7, n8, n9, n10, g0, g1, n11, n12, n13, n14, g2, n15, n16, g3, n17, g4, g5, n18, n19, n20, n21, n22, n23, n24, n25, n26, n27, n28, n29, n30, n31, n32, g6, g7⟩ := kMsg_open h
  exact ⟨_, _, _, _, _, _, _, _, rfl, ⟨n1, n2, n3, n4, n5, n6, n7, n8, n9, n11, n12, n17, n18, n19, n20, n21, n22, n23, n24, n25, n26, n27, n28, n29, n30, n31, n32⟩,
    kFact_mk w F x.Fact n10 g0 g1, kFilter_mk w F x.Query.Filter n13 n14 g2 n15 n16 g3, ⟨A4, c4, rfl, g4⟩, ⟨A5, c5, rfl, g5⟩, ⟨A6, c6, rfl, g6⟩, ⟨A7, c7, rfl, g7⟩⟩
theorem kMsg_join {w : World} {F : Nat → Prop} {x : Msg} {d m t k s a g p : Value} (hn : mNums x) (h1 : mFact x w F d m) (h2 : mFilter x w F t k) (h3 : mSets x w F s) (h4 : mAggs x w F a) (h5 : mSegs x w F g) (h6 : mGroups x w F p) : kMsg.K w F x (mC x d m t k s a g p).toList := by
  obtain ⟨n1, n2, n3, n4, n5, n6, n7, n8, n9, n11, n12, n17, n18, n19, n20, n21, n22, n23, n24, n25, n26, n27, n28, n29, n30, n31, n32⟩ := hn
  obtain ⟨A0, c0, A1, c1, e1, n10, g0, g1⟩ := kFact_open h1
  simp only [List.cons.injEq, true_and, and_true] at e1
  obtain ⟨rfl, rfl⟩ := e1
  obtain ⟨A2, c2, A3, c3, e2, n13, n14, g2, n15, n16, g3⟩ := kFilter_open h2
  simp only [List.cons.injEq, true_and, and_true] at e2
  obtain ⟨rfl, rfl⟩ := e2
  obtain ⟨A4, c4, e4, g4⟩ := h3
  obtain ⟨A5, c5, e5, g5⟩ := h4
  obtain ⟨A6, c6, e6, g6⟩ := h5
  obtain ⟨A7, c7, e7, g7⟩ := h6
  simp only [List.cons.injEq, and_true] at e4 e5 e6 e7
  subst e4 e5 e6 e7
  exact kMsg_mk w F x n1 n2 n3 n4 n5 n6 n7 n8 n9 n10 g0 g1 n11 n12 n13 n14 g2 n15 n16 g3 n17 g4 g5 n18 n19 n20 n21 n22 n23 n24 n25 n26 n27 n28 n29 n30 n31 n32 g6 g7
end Go.Proofs.Ytjpeaeklhcnpnaa.K
