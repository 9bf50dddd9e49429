/- The message that NetOwn sends, in memory. No condition. -/
import Derived.Test.YtjpeaeklhcnpnaaA2
import Derived.Test.YtjpeaeklhcnpnaaO2
import Derived.Test.YtjpeaeklhcnpnaaW0
namespace Go.Proofs.Ytjpeaeklhcnpnaa.K
open Go.RowKit
set_option linter.unusedVariables false
set_option linter.unusedSimpArgs false
theorem C_one {α : Type} {d : Kd α} {w : World} {F : Nat → Prop} {g : Nat} {t : TypeId} {p : α} {cs : List Value} (hb : w.heap[g]? = some (.cells cs.toArray t (0, 0))) (hF : F g) (hK : d.K w F p cs) : d.C w F (some ⟨g, 0, none⟩) 1 [p] := by
  refine ⟨rfl, by decide, fun _ => ⟨_, rfl, hF, blk_lt hb, fun j q hj => ?_⟩⟩
  have h0 : j = 0 := by
    have := (List.getElem?_eq_some_iff.1 hj).1
    simp at this
    exact this
  subst h0
  obtain rfl : p = q := by simpa using hj
  refine ⟨cs, hK, fun i u hu => ?_⟩
  rw [Addr.add_mid, blk_cell hb, Nat.zero_mul, Nat.zero_add, Nat.zero_add]
  simpa using hu
/-- The message that NetOwn sends. -/
def xOwn : Msg := { zMsg with Segs := [{ zSeg with Version := 1 }], Fact := { zFact with Dims := [⟨#[97]⟩] }, Query := { zQuery with Sets := [[1]] } }
def ownX (n : Nat) : Array Value := mC xOwn (.slice (some ⟨n + 1, 0, none⟩) 1 1) (.slice none 0 0) (.slice none 0 0) (.slice none 0 0) (.slice (some ⟨n + 3, 0, none⟩) 1 1) (.slice none 0 0) (.slice (some ⟨n, 0, none⟩) 1 1) (.slice none 0 0)
structure OwnIn (W : World) (n : Nat) : Prop where
  b0 : W.heap[n]? = some (.cells #[.int .i64 0, .int .i64 0, .int .i64 1, .int .i64 0, .int .i64 0] 46 (0, 0))
  b1 : W.heap[n + 1]? = some (.cells #[.string ⟨#[97]⟩] 9 (0, 0))
  b2 : W.heap[n + 2]? = some (.cells #[.int .i64 1] 3 (0, 0))
  b3 : W.heap[n + 3]? = some (.cells #[.slice (some ⟨n + 2, 0, none⟩) 1 1] 81 (0, 0))
  b4 : W.rangeAt (n + 4) 0 (ownX n).toList
theorem ownX_one (n : Nat) : (ownX n).all (·.oneCell') = true := by simp [ownX, mC, Value.oneCell']
def ownW (w : World) (n : Nat) : World := ((((w.alloc (.cells #[.int .i64 0, .int .i64 0, .int .i64 1, .int .i64 0, .int .i64 0] 46)).alloc (.cells #[.string ⟨#[97]⟩] 9)).alloc (.cells #[.int .i64 1] 3)).alloc (.cells #[.slice (some ⟨n + 2, 0, none⟩) 1 1] 81)).alloc (.cells mZ 54)
theorem ownW_in {w : World} {n : Nat} (hn : w.heap.size = n) : (ownW w n).heap[n + 4]? = some (.cells mZ 54 (0, 0)) ∧ OwnIn ((ownW w n).setCells (n + 4) 0 (ownX n).toList) n ∧ Below n w ((ownW w n).setCells (n + 4) 0 (ownX n).toList) ∧ n + 4 < ((ownW w n).setCells (n + 4) 0 (ownX n).toList).heap.size := by
  subst hn
  have h4 : (ownW w w.heap.size).heap[w.heap.size + 4]? = some (.cells mZ 54 (0, 0)) := by
    have := blk_new ((((w.alloc (.cells #[.int .i64 0, .int .i64 0, .int .i64 1, .int .i64 0, .int .i64 0] 46)).alloc (.cells #[.string ⟨#[97]⟩] 9)).alloc (.cells #[.int .i64 1] 3)).alloc (.cells #[.slice (some ⟨w.heap.size + 2, 0, none⟩) 1 1] 81)) (.cells mZ 54)
    simp only [World.size_alloc] at this
    exact this
  have h0 := blk_alloc (blk_alloc (blk_alloc (blk_alloc (blk_new w (.cells #[.int .i64 0, .int .i64 0, .int .i64 1, .int .i64 0, .int .i64 0] 46)) (.cells #[.string ⟨#[97]⟩] 9)) (.cells #[.int .i64 1] 3)) (.cells #[.slice (some ⟨w.heap.size + 2, 0, none⟩) 1 1] 81)) (.cells mZ 54)
  have h1 := blk_alloc (blk_alloc (blk_alloc (blk_new (w.alloc (.cells #[.int .i64 0, .int .i64 0, .int .i64 1, .int .i64 0, .int .i64 0] 46)) (.cells #[.string ⟨#[97]⟩] 9)) (.cells #[.int .i64 1] 3)) (.cells #[.slice (some ⟨w.heap.size + 2, 0, none⟩) 1 1] 81)) (.cells mZ 54)
  have h2 := blk_alloc (blk_alloc (blk_new ((w.alloc (.cells #[.int .i64 0, .int .i64 0, .int .i64 1, .int .i64 0, .int .i64 0] 46)).alloc (.cells #[.string ⟨#[97]⟩] 9)) (.cells #[.int .i64 1] 3)) (.cells #[.slice (some ⟨w.heap.size + 2, 0, none⟩) 1 1] 81)) (.cells mZ 54)
  have h3 := blk_alloc (blk_new (((w.alloc (.cells #[.int .i64 0, .int .i64 0, .int .i64 1, .int .i64 0, .int .i64 0] 46)).alloc (.cells #[.string ⟨#[97]⟩] 9)).alloc (.cells #[.int .i64 1] 3)) (.cells #[.slice (some ⟨w.heap.size + 2, 0, none⟩) 1 1] 81)) (.cells mZ 54)
  simp only [World.size_alloc] at h1 h2 h3
  have hb : Below w.heap.size w (ownW w w.heap.size) := below_alloc (below_alloc (below_alloc (below_alloc (below_alloc (Below.refl _ _) _) _) _) _) _
  refine ⟨h4, ⟨?_, ?_, ?_, ?_, World.rangeAt_setCells_same _ _ _ _ (there_blk h4 rfl rfl)⟩, below_setCells (by omega) _ _ _ hb, by rw [setCells_size]; exact blk_lt h4⟩
  · rw [setCells_other _ _ _ (by omega)]; exact h0
  · rw [setCells_other _ _ _ (by omega)]; exact h1
  · rw [setCells_other _ _ _ (by omega)]; exact h2
  · rw [setCells_other _ _ _ (by omega)]; exact h3
theorem own_K {W : World} {n : Nat} {F : Nat → Prop} (h : OwnIn W n) (hF : ∀ k, n ≤ k → F k) : kMsg.K W F xOwn (ownX n).toList := by
  have hS : kSeg.C W F (some ⟨n, 0, none⟩) 1 [{ zSeg with Version := 1 }] := C_one h.b0 (hF _ (Nat.le_refl _)) (kSeg_mk W F _ rfl rfl rfl rfl rfl)
  have hD : Kd.string.C W F (some ⟨n + 1, 0, none⟩) 1 [⟨#[97]⟩] := C_one h.b1 (hF _ (by omega)) ⟨rfl, by decide⟩
  have hI : (Kd.int .i64).C W F (some ⟨n + 2, 0, none⟩) 1 [1] := C_one h.b2 (hF _ (by omega)) ⟨rfl, rfl⟩
  have hQ : (Kd.slice 8 (Kd.int .i64)).C W F (some ⟨n + 3, 0, none⟩) 1 [[1]] := C_one h.b3 (hF _ (by omega)) ⟨_, 1, rfl, by decide, by decide, hI⟩
  exact kMsg_mk W F xOwn rfl rfl rfl rfl rfl rfl rfl rfl rfl rfl ⟨Nat.le_refl _, by decide, hD⟩ (nil_ok _ W F _) rfl rfl rfl rfl (nil_ok _ W F _) rfl rfl (nil_ok _ W F _) rfl ⟨Nat.le_refl _, by decide, hQ⟩ (nil_ok _ W F _) rfl rfl rfl rfl rfl rfl rfl rfl rfl rfl rfl rfl rfl rfl rfl ⟨Nat.le_refl _, by decide, hS⟩ (nil_ok _ W F _)
theorem C_head {α : Type} {d : Kd α} {w : World} {F : Nat → Prop} {A : Option Addr} {p : α} (h : d.C w F A 1 [p]) : ∃ ad cs, A = some ad ∧ F ad.block ∧ d.K w F p cs ∧ ∀ i u, cs[i]? = some u → w.cell? (ad.add i) = some u := by
  obtain ⟨ad, rfl, hF, _, hat⟩ := h.2.2 (by decide)
  obtain ⟨cs, hK, hc⟩ := hat 0 p rfl
  exact ⟨ad, cs, rfl, hF, hK, fun i u hu => by have := hc i u hu; rwa [Nat.zero_mul, Nat.zero_add] at this⟩
theorem add_zero' (ad : Addr) : ad.add 0 = ad := rfl
theorem add_pos' (ad : Addr) (j : Nat) (hj : 0 < j) : ad.add j = ⟨ad.block, ad.off + j, none⟩ := by
  have := add_off ad 0 j hj
  rwa [Nat.zero_add] at this
/-- What is read of the message told. -/
theorem own_z {w : World} {F : Nat → Prop} {cs : List Value} (h : kMsg.K w F (withId xOwn 1) cs) : ∃ a1 a2 a3 a4 c1 c2 c3 c4, cs[39]? = some (.slice (some a1) 1 c1) ∧ cs[10]? = some (.slice (some a2) 1 c2) ∧ cs[21]? = some (.slice (some a3) 1 c3) ∧
    w.cell? ⟨a1.block, a1.off + 2, none⟩ = some (.int .i64 1) ∧ w.cell? a2 = some (.string ⟨#[97]⟩) ∧ w.cell? a3 = some (.slice (some a4) 1 c4) ∧ w.cell? a4 = some (.int .i64 1) ∧ F a1.block ∧ F a2.block ∧ F a3.block ∧ F a4.block := by
  obtain ⟨d, m, t, k, s, a, g, p, rfl, _, h1, _, h3, _, h5, _⟩ := kMsg_parts h
  obtain ⟨A0, c0, A1, c1, e1, _, q0, _⟩ := kFact_open h1
  simp only [List.cons.injEq, true_and, and_true] at e1
  obtain ⟨rfl, rfl⟩ := e1
  obtain ⟨A4, c4, e4, _, _, hs⟩ := h3
  obtain ⟨A6, c6, e6, _, _, hg⟩ := h5
  simp only [List.cons.injEq, and_true] at e4 e6
  subst e4 e6
  obtain ⟨a2, cd, rfl, f2, ⟨rfl, _⟩, hd⟩ := C_head (show Kd.string.C w F A0 1 [⟨#[97]⟩] from q0.2.2)
  obtain ⟨a1, cg, rfl, f1, hKg, hg2⟩ := C_head (show kSeg.C w F A6 1 [{ zSeg with Version := 1 }] from hg)
  obtain ⟨a3, cq, rfl, f3, hKq, hq2⟩ := C_head (show (Kd.slice 8 (Kd.int .i64)).C w F A4 1 [[1]] from hs)
  obtain ⟨A8, c8, rfl, _, _, h8⟩ := hKq
  obtain ⟨a4, ci, rfl, f4, ⟨rfl, _⟩, hi2⟩ := C_head (show (Kd.int .i64).C w F A8 1 [1] from h8)
  obtain ⟨rfl, _⟩ := kSeg_open hKg
  refine ⟨a1, a2, a3, a4, _, _, _, _, rfl, rfl, rfl, ?_, hd 0 _ rfl, hq2 0 _ rfl, hi2 0 _ rfl, f1, f2, f3, f4⟩
  have := hg2 2 _ rfl
  rwa [add_pos' _ _ (by decide)] at this
theorem blk_elem {w : World} {a b : Nat} {c1 c2 : Array Value} {t1 t2 : TypeId} (h1 : w.heap[a]? = some (.cells c1 t1 (0, 0))) (h2 : w.heap[b]? = some (.cells c2 t2 (0, 0))) (ht : t1 ≠ t2) : a ≠ b := by
  rintro rfl
  rw [h1] at h2
  injection h2 with h2
  injection h2 with _ h2
  exact ht h2
/-- What is written to of the message told. -/
theorem own_y {w : World} {F : Nat → Prop} {cs : List Value} (h : kMsg.K w F (withId xOwn 1) cs) (hs : Shp (withId xOwn 1) w F cs) : ∃ gg gs gi c1 c2 c3, cs[39]? = some (.slice (some ⟨gg, 0, none⟩) 1 c1) ∧ cs[21]? = some (.slice (some ⟨gs, 0, none⟩) 1 c2) ∧
    w.cell? ⟨gg, 2, none⟩ = some (.int .i64 1) ∧ w.frozen? ⟨gg, 2, none⟩ = false ∧ w.cell? ⟨gs, 0, none⟩ = some (.slice (some ⟨gi, 0, none⟩) 1 c3) ∧ w.cell? ⟨gi, 0, none⟩ = some (.int .i64 1) ∧ w.frozen? ⟨gi, 0, none⟩ = false ∧
    F gg ∧ F gs ∧ F gi ∧ gg ≠ gs ∧ gg ≠ gi ∧ gi ≠ gs := by
  obtain ⟨a1, a2, a3, a4, c1, c2, c3, c4, e1, e2, e3, m1, m2, m3, m4, f1, f2, f3, f4⟩ := own_z h
  obtain ⟨s, g, k1, k2, hq, hr⟩ := hs
  rw [e3] at k1
  rw [e1] at k2
  obtain rfl := Option.some.inj k1
  obtain rfl := Option.some.inj k2
  rcases hr with hr | ⟨gg, cg, er, fg, curg, bg⟩
  · exact absurd hr (by decide)
  rcases hq with hq | ⟨gs, cq, eq, fs, ⟨curs, bs⟩, hu⟩
  · exact absurd hq (by decide)
  injection er with er1 er2 er3
  injection eq with eq1 eq2 eq3
  obtain rfl : a1 = ⟨gg, 0, none⟩ := Option.some.inj er1
  obtain rfl : a3 = ⟨gs, 0, none⟩ := Option.some.inj eq1
  obtain ⟨u, hu1, hu2⟩ := hu 0 (by decide)
  rw [m3] at hu1
  obtain rfl := Option.some.inj hu1
  rcases hu2 with hu2 | ⟨gi, ci, ei, fi, curi, bi⟩
  · exact absurd hu2 (by decide)
  injection ei with ei1 ei2 ei3
  obtain rfl : a4 = ⟨gi, 0, none⟩ := Option.some.inj ei1
  exact ⟨gg, gs, gi, _, _, _, e1, e3, m1, blk_frozen bg _, m3, m4, blk_frozen bi _, fg, fs, fi, blk_elem bg bs (by decide), blk_elem bg bi (by decide), blk_elem bi bs (by decide)⟩
end Go.Proofs.Ytjpeaeklhcnpnaa.K
