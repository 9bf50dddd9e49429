/- The law GrainUnions, walked: it returns true. No condition beyond what is read. -/
import Derived.Test.YtabmablgaifidaaR0
namespace Go.Proofs.Ytabmablgaifidaa.PGrain
open Go.RowKit Go.Proofs.YtabmablgaifidaaW.PrintWords Go.Proofs.YtabmablgaifidaaW.PrintLast Go.Proofs.YtabmablgaifidaaW.PrintMore
set_option linter.unusedVariables false
set_option linter.unusedSimpArgs false

theorem below_self {w w1 w2 : World} (h : Below w.heap.size w w1) (k : Below w1.heap.size w1 w2) : Below w.heap.size w w2 := below_then h h.size k
theorem below_of_drawn {w w1 : World} (h : Drawn0 w w1) : Below w.heap.size w w1 := by
  obtain ⟨n, rfl⟩ := h.out
  exact pw_below_drewN (Below.refl _ _) n
/-- What a call that makes a row of spans hands back. -/
def MakesRow (l : List S26) (w : World) (e : Ending) (w' : World) : Prop := ∃ A c, e = .returned (.slice A l.length c) ∧ l.length ≤ c ∧ Kd.C k26 w' A l.length l ∧ Below w.heap.size w w'
theorem makes_of {l : List S26} {w : World} {e : Ending} {w' : World} (h : ∃ v : Value, e = .returned v ∧ Kd.R k26 26 w' w.heap.size (fun _ => True) v l ∧ Below w.heap.size w w') : MakesRow l w e w' := by
  obtain ⟨v, rfl, hr, hb⟩ := h
  obtain ⟨A, c, rfl, hc, hC⟩ := Kd.R_reads hr
  exact ⟨A, c, rfl, hc, hC, hb⟩
theorem awake_at (w : World) : Calls Try.prog 10 #[] w fun e w' => e = .returned (.bool true) ∧ Below w.heap.size w w' := by
  obtain ⟨k, hk⟩ := Ev.rounds awake_ev
  exact gristmilllaw07_awake.calls k true w hk
theorem union_at {l : List S26} (hl : l.length ≤ 200) (A : Option Addr) (c : Nat) (w : World) (hc : l.length ≤ c) (hC : Kd.C k26 w A l.length l) : Calls Try.prog 14 #[.slice A l.length c] w (MakesRow (unionS l) w) :=
  (grain_Union.calls A c l _ w hC hc (union_is (by omega))).mono fun _ _ h => makes_of h
theorem minus_at (s : S26) {l : List S26} (hl : l.length ≤ 200) (A : Option Addr) (c : Nat) (w : World) (hc : l.length ≤ c) (hC : Kd.C k26 w A l.length l) : Calls Try.prog 16 #[.agg #[.int .i64 s.f0, .int .i64 s.f1], .slice A l.length c] w (MakesRow (minusS s l) w) := by
  obtain ⟨k, hk⟩ := Ev.rounds (minus_ev (a := s.f0) (b := s.f1) (l := l) (by omega))
  exact (grain_Minus.calls k _ _ A c l _ w hC hc hk).mono fun _ _ h => makes_of h
theorem parts_at {a b : List S26} (ha : a.length ≤ 200) (hb : b.length ≤ 200) (A B : Option Addr) (c d : Nat) (w : World) (hc : a.length ≤ c) (hC : Kd.C k26 w A a.length a) (hd : b.length ≤ d) (hD : Kd.C k26 w B b.length b) : Calls Try.prog 15 #[.slice A a.length c, .slice B b.length d] w (MakesRow (partsS a b) w) := by
  obtain ⟨k, hk⟩ := Ev.rounds (parts_ev (a := a) (b := b) (by omega))
  exact (gristmillref07_Parts.calls k A c a B d b _ w hC hc hD hd hk).mono fun _ _ h => makes_of h
theorem same_at {l : List S26} (hl : l.length ≤ 100000) (A B : Option Addr) (c d : Nat) (w : World) (hc : l.length ≤ c) (hC : Kd.C k26 w A l.length l) (hd : l.length ≤ d) (hD : Kd.C k26 w B l.length l) : Calls Try.prog 13 #[.slice A l.length c, .slice B l.length d] w fun e w' => e = .returned (.bool true) ∧ Below w.heap.size w w' := by
  obtain ⟨k, hk⟩ := Ev.rounds (same_ev (l := l) (by omega))
  exact (gristmillref07_Same.calls k A c l B d l true w hC hc hD hd hk).mono fun _ _ ⟨h, hb⟩ => ⟨h, below_of_drawn hb⟩
/-- A new row of one span. -/
theorem one_C (w : World) (s : S26) : Kd.C k26 (w.alloc (.cells #[.int .i64 s.f0, .int .i64 s.f1] 26)) (some ⟨w.heap.size, 0, none⟩) [s].length [s] := by
  refine ⟨rfl, by simp, fun _ => ⟨_, rfl, fun j p hj => ?_⟩⟩
  cases j with
  | succ j => simp at hj
  | zero =>
    have : s = p := by simpa using hj
    subst this
    refine ⟨_, rfl, k26_mk _ _, fun i u hu => ?_⟩
    have ha : (⟨w.heap.size, 0, none⟩ : Addr).add (0 * k26.sz + i) = ⟨w.heap.size, i, none⟩ := by simp [Addr.add]; omega
    rw [ha, blk_cell (blk_new w _) i]
    simpa using hu
theorem unions_same (l : List S26) : partsS l [] = unionS l := canon_unique (parts_spec l []).1 (unionS_canon l) (fun t => by rw [(parts_spec l []).2, unionS_any]; simp [anyS_nil])
theorem minus_same (s : S26) (l : List S26) : partsS [s] l = minusS s l := canon_unique (parts_spec [s] l).1 (minusS_canon s l) (fun t => by rw [(parts_spec [s] l).2, minusS_any, anyS_cons, anyS_nil, Bool.or_false])

theorem span_known {W W' : World} {g : Nat} {a b : Value} (h : W.cell? ⟨g, 0, none⟩ = some a ∧ W.cell? ⟨g, 1, none⟩ = some b) (hb : Below W.heap.size W W') : W'.cell? ⟨g, 0, none⟩ = some a ∧ W'.cell? ⟨g, 1, none⟩ = some b := ⟨blk_cell1 h.1 hb, blk_cell1 h.2 hb⟩
theorem balloc {W W' : World} (I : Aside0 (Below W.heap.size W W')) (o : Obj) : Aside0 (Below W.heap.size W (W'.alloc o)) := ⟨below_self I.out (below_alloc (Below.refl _ W') o)⟩
theorem ballocd {W W' : World} (I : Aside0 (Below W.heap.size W W')) (o : Obj) : Aside0 (Below W.heap.size W (W'.alloc o).drew) := ⟨below_drew (balloc I o).out⟩
theorem parts_one (s : S26) {l : List S26} (h200 : l.length ≤ 200) (A : Option Addr) (c : Nat) (W : World) (g : Nat) (hc : l.length ≤ c) (hC : Kd.C k26 W A l.length l) (h1 : Kd.C k26 W (some ⟨g, 0, none⟩) [s].length [s]) : Calls Try.prog 15 #[.slice (some ⟨g, 0, none⟩) 1 1, .slice A l.length c] W (MakesRow (minusS s l) W) := by
  have := parts_at (a := [s]) (b := l) (by simp) h200 (some ⟨g, 0, none⟩) A 1 c W (by simp) h1 hc hC
  rw [minus_same] at this
  exact this

set_option maxHeartbeats 8000000 in
theorem unions_walk (w : World) (s : S26) (l : List S26) (A : Option Addr) (c : Nat) (hc : l.length ≤ c) (hC : Kd.C k26 w A l.length l) :
    Calls Try.prog 4 #[.agg #[.int .i64 s.f0, .int .i64 s.f1], .slice A l.length c] w fun e w' => e = .returned (.bool true) ∧ Below w.heap.size w w' := by
  have HC := Aside0.mk hC
  clear hC
  go_enter Try.func4, Try.ntmps4
  go_wp2_with fail
  generalize hW : w.alloc _ = W
  obtain ⟨b0, b1, hbw⟩ := one_known hW
  have HBW := Aside0.mk hbw
  have HK := Aside0.mk (And.intro b0 b1)
  have hlt : w.heap.size < W.heap.size := World.block_lt_of_cell? _ _ b0
  clear hW hbw b0 b1
  refine (awake_at W).mono ?_
  rintro e w2 ⟨rfl, hb⟩
  have H2 := Aside0.mk hb
  clear hb
  by_cases h200 : l.length ≤ 200
  · have hno : decide ((200 : Int) < (l.length : Int)) = false := by simp; omega
    have HU := Aside0.mk (union_at h200 A c w2 hc (Kd.C_below HC.out (below_self HBW.out H2.out)))
    go_wp2_with fail
    refine HU.out.mono ?_
    rintro e w3 ⟨A3, c3, rfl, hc3, hC3, hb⟩
    have H3 := Aside0.mk (below_self H2.out hb)
    have HC3 := Aside0.mk hC3
    have HP := Aside0.mk (parts_at (a := l) (b := []) h200 (by simp) A none c 0 w3 hc (Kd.C_below HC.out (below_self HBW.out H3.out)) (by simp) (Kd.C_nil _ _))
    rw [unions_same] at HP
    clear HU hC3 hb
    go_wp2_with fail
    refine HP.out.mono ?_
    rintro e w4 ⟨A4, c4, rfl, hc4, hC4, hb⟩
    have H4 := Aside0.mk (below_self H3.out hb)
    have hul := unionS_length l
    have HS := Aside0.mk (same_at (l := unionS l) (by omega) A3 A4 c3 c4 w4 hc3 (Kd.C_below HC3.out hb) hc4 hC4)
    clear HP hb hC4 hul
    go_wp2_with fail
    refine HS.out.mono ?_
    rintro e w5 ⟨rfl, hb⟩
    have H5 := Aside0.mk (below_self H4.out hb)
    clear HS hb
    go_wp2_with fail
    have HI5 := Aside0.mk H5.out.drew
    have hcl := fun W' (I : Aside0 (Below W.heap.size W W')) => span_known HK.out I.out
    have hclA := fun W' o (I : Aside0 (Below W.heap.size W W')) => span_known HK.out (below_self I.out (below_alloc (Below.refl _ W') o))
    have hm := fun W' (I : Aside0 (Below W.heap.size W W')) => Aside0.mk (minus_at s h200 A c W' hc (Kd.C_below HC.out (below_self HBW.out I.out)))
    have hpA := fun W' (I : Aside0 (Below W.heap.size W W')) => Aside0.mk (parts_one s h200 A c (W'.alloc (.cells #[.int .i64 s.f0, .int .i64 s.f1] 26)) W'.heap.size hc (Kd.C_below HC.out (below_self HBW.out (below_self I.out (below_alloc (Below.refl _ W') _)))) (one_C W' s))
    have hpB := fun W' (I : Aside0 (Below (w5.alloc (.cells #[.int .i64 s.f0, .int .i64 s.f1] 26)).drew.heap.size (w5.alloc (.cells #[.int .i64 s.f0, .int .i64 s.f1] 26)).drew W')) => Aside0.mk (parts_one s h200 A c W' w5.heap.size hc (Kd.C_below HC.out (below_self HBW.out (below_self (ballocd H5 _).out I.out))) (Kd.C_below (Kd.C_drew (one_C w5 s)) I.out))
    have hml := minusS_length s l
    have hsm := fun A B c d W' hc hC hd hD => Aside0.mk (same_at (l := minusS s l) (by omega) A B c d W' hc hC hd hD)
    clear hml
    generalize minusS s l = m at hm hpA hpB hsm
    go_region_held3 (fun W' => W'.cell? ⟨w.heap.size, 0, none⟩ = some (.int .i64 s.f0) ∧ W'.cell? ⟨w.heap.size, 1, none⟩ = some (.int .i64 s.f1)) (first | exact hcl _ (by assumption) | exact hclA _ _ (by assumption)) (first | (go_at_call 13; (with_reducible refine (hsm A6 A7 c6 c7 _ hc6 HC6.out hc7 HC7.out).out.mono ?_); rintro e wq8 ⟨rfl, hb⟩; have HI8 := Aside0.mk (below_self HI7.out hb); clear hb) | (go_at_call 15; (with_reducible refine (hpA _ HI6).out.mono ?_); rintro e wq7 ⟨A7, c7, rfl, hc7, hC7, hb⟩; have HC7 := Aside0.mk hC7; have HI7 := Aside0.mk (below_self HI6.out (below_self (below_alloc (Below.refl _ wq6) _) hb)); have HC6 := Aside0.mk (Kd.C_below HC6.out (below_self (below_alloc (Below.refl _ wq6) _) hb)); clear hC7 hb) | (go_at_call 15; (with_reducible refine (hpB _ HI6B).out.mono ?_); rintro e wq7 ⟨A7, c7, rfl, hc7, hC7, hb⟩; have HC7 := Aside0.mk hC7; have HI7 := Aside0.mk (below_self HI6.out hb); have HC6 := Aside0.mk (Kd.C_below HC6.out hb); clear hC7 hb) | (go_at_call 16; (with_reducible refine (hm _ HI5).out.mono ?_); rintro e wq6 ⟨A6, c6, rfl, hc6, hC6, hb⟩; have HC6 := Aside0.mk hC6; have HI6 := Aside0.mk (below_self HI5.out hb); clear hC6 hb) | (go_at_call 16; (with_reducible refine (hm _ (ballocd H5 _)).out.mono ?_); rintro e wq6 ⟨A6, c6, rfl, hc6, hC6, hb⟩; have HC6 := Aside0.mk hC6; have HI6 := Aside0.mk (below_self (ballocd H5 _).out hb); have HI6B := Aside0.mk hb; clear hC6 hb))
    all_goals
      go_wp2
      go_ret
      exact ⟨rfl, below_self HBW.out HI8.out⟩
  · have hyes : decide ((200 : Int) < (l.length : Int)) = true := by simp; omega
    go_wp2
    go_ret
    exact ⟨rfl, below_self HBW.out H2.out⟩
theorem law_unions (w : World) (a : S26) (cs : List Value) (h : K.kSpan.K w K.Any a cs) (xs : List S26) (A : Option Addr) (n c : Nat) (h2 : (K.Kd.slice 16 K.kSpan).K w K.Any xs [.slice A n c]) :
    Calls Try.prog 4 #[.agg cs.toArray, .slice A n c] w fun e w' => e = .returned (.bool true) ∧ Below w.heap.size w w' := by
  obtain ⟨rfl, _⟩ := K.kSpan_open h
  obtain ⟨rfl, hc, _, hC, _⟩ := K.kSpans_open h2
  exact unions_walk w a xs A c hc hC
end Go.Proofs.Ytabmablgaifidaa.PGrain
