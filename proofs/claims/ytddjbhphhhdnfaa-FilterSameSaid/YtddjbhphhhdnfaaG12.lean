/- The contract of filter.like: no condition. -/
import Derived.Test.YtddjbhphhhdnfaaG11
import Derived.Test.YtddjbhphhhdnfaaG8
import Derived.Deep.DeepCutAuto
namespace Go.Proofs.Ytddjbhphhhdnfaa.K
open Go.RowKit
set_option linter.unusedVariables false
set_option linter.unusedSimpArgs false

def likeB (a b : Filter) : Bool := (a.Kind == b.Kind) && (a.Dim == b.Dim) && (a.Lo == b.Lo) && (a.Hi == b.Hi) && zipAll isText a.Texts b.Texts
def likeF (x y : Filter) : Bool := likeB (bareF x) (bareF y)
theorem texts_set {w : World} {C : Nat} {A : Option Addr} {n : Nat} {xs : List ByteArray} {g i : Nat} {v : Value} (h : Kd.string.C w (fun k => C < k) A n xs) (hg : g ≤ C) : Kd.string.C (w.setCell ⟨g, i, none⟩ v) (fun k => C < k) A n xs := C_set h (fun k hk => by have : C < k := hk; show k ≠ g; omega)
/-- What stands behind 'a, b = bare(a), bare(b)'. -/
def Bared (w : World) (B : Nat) (a b : Filter) (W : World) : Prop :=
  ∃ A0 c0 A1 c1 B0 d0 B1 d1, W.heap[B]? = some (.cells #[.int .i64 a.Kind, .int .i64 a.Dim, .slice A0 a.Texts.length c0, .int .i64 a.Lo, .int .i64 a.Hi, .slice A1 a.Kids.length c1] 25 (0, 0)) ∧
    W.heap[B + 1]? = some (.cells #[.int .i64 b.Kind, .int .i64 b.Dim, .slice B0 b.Texts.length d0, .int .i64 b.Lo, .int .i64 b.Hi, .slice B1 b.Kids.length d1] 25 (0, 0)) ∧
    Kd.string.C W Any A0 a.Texts.length a.Texts ∧ Kd.string.C W Any B0 b.Texts.length b.Texts ∧ Below w.heap.size w W

/-- Six cells are set. -/
def set6 (w : World) (g : Nat) (v0 v1 v2 v3 v4 v5 : Value) : World := (((((w.setCell ⟨g, 0, none⟩ v0).setCell ⟨g, 1, none⟩ v1).setCell ⟨g, 2, none⟩ v2).setCell ⟨g, 3, none⟩ v3).setCell ⟨g, 4, none⟩ v4).setCell ⟨g, 5, none⟩ v5
theorem set6_same {w : World} {g : Nat} {t : TypeId} {a b c d e f v0 v1 v2 v3 v4 v5 : Value} (h : w.heap[g]? = some (.cells #[a, b, c, d, e, f] t (0, 0))) : (set6 w g v0 v1 v2 v3 v4 v5).heap[g]? = some (.cells #[v0, v1, v2, v3, v4, v5] t (0, 0)) := by
  have h0 := blk_set h 0 v0
  have h1 := blk_set h0 1 v1
  have h2 := blk_set h1 2 v2
  have h3 := blk_set h2 3 v3
  have h4 := blk_set h3 4 v4
  have h5 := blk_set h4 5 v5
  exact h5
theorem set6_other {w : World} {g k : Nat} {v0 v1 v2 v3 v4 v5 : Value} (h : k ≠ g) : (set6 w g v0 v1 v2 v3 v4 v5).heap[k]? = w.heap[k]? := by
  unfold set6
  rw [set_other h, set_other h, set_other h, set_other h, set_other h, set_other h]
theorem set6_texts {w : World} {g C : Nat} {A : Option Addr} {n : Nat} {xs : List ByteArray} {v0 v1 v2 v3 v4 v5 : Value} (h : Kd.string.C w (fun k => C < k) A n xs) (hg : g ≤ C) : Kd.string.C (set6 w g v0 v1 v2 v3 v4 v5) (fun k => C < k) A n xs :=
  texts_set (texts_set (texts_set (texts_set (texts_set (texts_set h hg) hg) hg) hg) hg) hg
theorem set6_below {B : Nat} {w w1 : World} {g : Nat} {v0 v1 v2 v3 v4 v5 : Value} (h : Below B w w1) (hg : B ≤ g) : Below B w (set6 w1 g v0 v1 v2 v3 v4 v5) :=
  below_set (below_set (below_set (below_set (below_set (below_set h hg) hg) hg) hg) hg) hg
theorem bared_of {w W : World} {B : Nat} {a b : Filter} {E0 E1 G0 G1 : Option Addr} {f0 f1 g0 g1 : Nat} {a0 a1 a2 a3 a4 a5 b0 b1 b2 b3 b4 b5 : Value}
    (h1 : W.heap[B]? = some (.cells #[a0, a1, a2, a3, a4, a5] 25 (0, 0))) (h2 : W.heap[B + 1]? = some (.cells #[b0, b1, b2, b3, b4, b5] 25 (0, 0)))
    (ha : Kd.string.C W (fun k => B + 1 < k) E0 a.Texts.length a.Texts) (hb : Kd.string.C W (fun k => B + 1 < k) G0 b.Texts.length b.Texts) (hw : Below w.heap.size w W) (hB : w.heap.size ≤ B) :
    Bared w B a b (set6 (set6 W B (.int .i64 a.Kind) (.int .i64 a.Dim) (.slice E0 a.Texts.length f0) (.int .i64 a.Lo) (.int .i64 a.Hi) (.slice E1 a.Kids.length f1)) (B + 1) (.int .i64 b.Kind) (.int .i64 b.Dim) (.slice G0 b.Texts.length g0) (.int .i64 b.Lo) (.int .i64 b.Hi) (.slice G1 b.Kids.length g1)) :=
  ⟨E0, f0, E1, f1, G0, g0, G1, g1, (set6_other (by omega)).trans (set6_same h1), set6_same ((set6_other (by omega)).trans h2), Kd.C_any (set6_texts (set6_texts ha (by omega)) (by omega)), Kd.C_any (set6_texts (set6_texts hb (by omega)) (by omega)), set6_below (set6_below hw hB) (by omega)⟩

set_option maxHeartbeats 8000000 in
set_option maxRecDepth 100000 in
theorem like_any (x y : Filter) (cs ds : List Value) (w : World) (h : kFilter.K w Any x cs) (h2 : kFilter.K w Any y ds) :
    Calls Try.prog 42 #[.agg cs.toArray, .agg ds.toArray] w fun e w' => e = .returned (.bool (likeF x y)) ∧ Below w.heap.size w w' := by
  have HX := Aside.mk h
  have HY := Aside.mk h2
  obtain ⟨A0, c0, A1, c1, rfl, q0, q1, q2, q3, q4, q5⟩ := kFilter_open h
  obtain ⟨C0, e0, C1, e1, rfl, s0, s1, s2, s3, s4, s5⟩ := kFilter_open h2
  clear h h2 q0 q1 q2 q3 q4 q5 s0 s1 s2 s3 s4 s5
  unfold likeF
  have hba := fun W' (I : Aside (Below w.heap.size w W')) => Aside.mk (bare_any x _ W' (Kd.below HX.out I.out))
  have hbb := fun W' (I : Aside (Below w.heap.size w W')) => Aside.mk (bare_any y _ W' (Kd.below HY.out I.out))
  generalize bareF x = a at *
  generalize bareF y = b at *
  clear HX HY
  go_enter Try.func42, Try.ntmps42
  go_wp2_with fail
  generalize hW : (w.alloc _).alloc _ = W
  obtain ⟨b1, b2, hbel⟩ := two_known hW
  have HBW := Aside.mk hbel
  have HP1 := Aside.mk b1
  have HP2 := Aside.mk b2
  have hlt := blk_lt b2
  clear hW b1 b2 hbel
  go_cut [] (fun wc => Aside (Bared w w.heap.size a b wc))
  case first =>
    obtain ⟨i0, i1, i2, i3, i4, i5, _⟩ := cells6 HP1.out
    obtain ⟨j0, j1, j2, j3, j4, j5, _⟩ := cells6 HP2.out
    have HI2 := Aside.mk HBW.out.drew
    have HP1 := Aside.mk (blk_below HP1.out (Below.refl _ W).drew)
    have HP2 := Aside.mk (blk_below HP2.out (Below.refl _ W).drew)
    go_region_with (first
      | (go_at_call 31; refine (hbb _ HI3).out.mono ?_; rintro e w4 ⟨cb, rfl, hKb, hb⟩; obtain ⟨G0, g0, G1, g1, rfl, s0, s1, s2, s3, s4, s5⟩ := kFilter_open hKb; have HI4 := Aside.mk (below_self HI3.out hb); have HTA := Aside.mk (Kd.C_below HTA.out hb); have HTB := Aside.mk (Kd.C_mono (F' := fun k => w.heap.size + 1 < k) (fun k hk => Nat.lt_of_lt_of_le hlt (Nat.le_trans HS3.out hk)) s2.2.2); have HP1 := Aside.mk (blk_below HP13.out hb); have HP2 := Aside.mk (blk_below HP23.out hb); obtain ⟨i0, i1, i2, i3, i4, i5, hla⟩ := cells6 HP1.out; obtain ⟨j0, j1, j2, j3, j4, j5, hlb⟩ := cells6 HP2.out; have fa := fun i => blk_frozen HP1.out i; have fb := fun i => blk_frozen HP2.out i; clear hKb hb s0 s1 s2 s3 s4 s5)
      | (go_at_call 31; go_must (refine (hba _ HI2).out.mono ?_; rintro e w3 ⟨ca, rfl, hKa, hb⟩; obtain ⟨E0, f0, E1, f1, rfl, s0, s1, s2, s3, s4, s5⟩ := kFilter_open hKa; have HS3 := Aside.mk hb.size; have HI3 := Aside.mk (below_self HI2.out hb); have HTA := Aside.mk (Kd.C_mono (F' := fun k => w.heap.size + 1 < k) (fun k hk => Nat.lt_of_lt_of_le hlt hk) s2.2.2); have HP13 := Aside.mk (blk_below HP1.out hb); have HP23 := Aside.mk (blk_below HP2.out hb); obtain ⟨i0, i1, i2, i3, i4, i5, hla⟩ := cells6 HP13.out; obtain ⟨j0, j1, j2, j3, j4, j5, hlb⟩ := cells6 HP23.out; clear hKa hb s0 s1 s2 s3 s4 s5)))
    all_goals
      go_wp2_with fail
      go_meet
      case rel => exact ⟨bared_of HP1.out HP2.out HTA.out HTB.out HI4.out (Nat.le_refl _)⟩
  case rest =>
    obtain ⟨E0, f0, E1, f1, G0, g0, G1, g1, k1, k2, ka, kb, hbel⟩ := hcut.out
    have HBC := Aside.mk hbel
    have HEQ := Aside.mk (equal_any a.Texts b.Texts E0 G0 f0 g0 wc ka kb)
    obtain ⟨i0, i1, i2, i3, i4, i5, hla⟩ := cells6 k1
    obtain ⟨j0, j1, j2, j3, j4, j5, hlb⟩ := cells6 k2
    have hpost : likeB a b = ((a.Kind == b.Kind) && (a.Dim == b.Dim) && (a.Lo == b.Lo) && (a.Hi == b.Hi) && zipAll isText a.Texts b.Texts) := rfl
    have HPOST := Aside.mk hpost
    clear hbel k1 k2 ka kb hba hbb HP1 HP2 hcut hpost
    by_cases e0 : a.Kind = b.Kind
    · have e0b : (a.Kind == b.Kind) = true := by simpa using e0
      by_cases e1 : a.Dim = b.Dim
      · have e1b : (a.Dim == b.Dim) = true := by simpa using e1
        by_cases e2 : a.Lo = b.Lo
        · have e2b : (a.Lo == b.Lo) = true := by simpa using e2
          by_cases e3 : a.Hi = b.Hi
          · have e3b : (a.Hi == b.Hi) = true := by simpa using e3
            have HP := Aside.mk (show likeB a b = zipAll isText a.Texts b.Texts by rw [HPOST.out, e0b, e1b, e2b, e3b]; simp)
            clear HPOST
            generalize zipAll isText a.Texts b.Texts = z at *
            go_wp2_with fail
            refine HEQ.out.mono ?_
            rintro e w5 ⟨rfl, hb⟩
            go_wp2
            go_ret
            exact ⟨ret_bool HP.out.symm, below_self HBC.out hb⟩
          · have e3b : (a.Hi == b.Hi) = false := by simpa using e3
            have HP := Aside.mk (show likeB a b = false by rw [HPOST.out, e3b]; simp)
            go_wp2_with fail
            go_ret
            exact ⟨ret_bool HP.out.symm, HBC.out⟩
        · have e2b : (a.Lo == b.Lo) = false := by simpa using e2
          have HP := Aside.mk (show likeB a b = false by rw [HPOST.out, e2b]; simp)
          go_wp2_with fail
          go_ret
          exact ⟨ret_bool HP.out.symm, HBC.out⟩
      · have e1b : (a.Dim == b.Dim) = false := by simpa using e1
        have HP := Aside.mk (show likeB a b = false by rw [HPOST.out, e1b]; simp)
        go_wp2_with fail
        go_ret
        exact ⟨ret_bool HP.out.symm, HBC.out⟩
    · have e0b : (a.Kind == b.Kind) = false := by simpa using e0
      have HP := Aside.mk (show likeB a b = false by rw [HPOST.out, e0b]; simp)
      go_wp2_with fail
      go_ret
      exact ⟨ret_bool HP.out.symm, HBC.out⟩
end Go.Proofs.Ytddjbhphhhdnfaa.K
