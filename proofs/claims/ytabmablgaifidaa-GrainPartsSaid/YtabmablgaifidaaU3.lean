/- Buckets and cuts of a span, plainly. No program, no condition. -/
import Derived.Test.YtabmablgaifidaaU1
namespace Go.Proofs.Ytabmablgaifidaa.PGrain
open Go.RowKit
set_option linter.unusedVariables false

/-- A number of 64 bits. -/
def I64 (n : Int) : Prop := -9223372036854775808 ≤ n ∧ n ≤ 9223372036854775807
theorem w64 {n : Int} (h : I64 n) : wrap64 n = n := by
  unfold I64 at h
  unfold wrap64
  omega
theorem u64w (n : Int) : IntKind.u64.wrap n = n % 18446744073709551616 := by simp [IntKind.wrap, IntKind.bits, IntKind.signed]

/-- The rest by a length above 0, and what the program takes for it. -/
theorem rest_tmod {t g : Int} (hg : 0 < g) : t % g = if t.tmod g < 0 then t.tmod g + g else t.tmod g := by
  have h0 := Int.emod_nonneg t (show g ≠ 0 by omega)
  have h1 := Int.emod_lt_of_pos t hg
  rw [Int.tmod_eq_emod]
  by_cases h : 0 ≤ t ∨ g ∣ t
  · rw [if_pos h]
    simp only [Int.natCast_zero, Int.sub_zero]
    rw [if_neg (by omega)]
  · rw [if_neg h]
    have : ((g.natAbs : Nat) : Int) = g := by omega
    rw [this, if_pos (by omega)]
    omega
theorem tmod_lt {t g : Int} (hg : 0 < g) : -g < t.tmod g ∧ t.tmod g < g := by
  have h0 := Int.emod_nonneg t (show g ≠ 0 by omega)
  have h1 := Int.emod_lt_of_pos t hg
  rw [Int.tmod_eq_emod]
  by_cases h : 0 ≤ t ∨ g ∣ t
  · rw [if_pos h]; omega
  · rw [if_neg h]
    have : t % g ≠ 0 := fun e => h (.inr (Int.dvd_of_emod_eq_zero e))
    omega
theorem tmod_sign {t g : Int} (hg : 0 < g) : (0 ≤ t → 0 ≤ t.tmod g) ∧ (t ≤ 0 → t.tmod g ≤ 0) :=
  ⟨fun h => Int.tmod_nonneg g h, fun h => by
    have := Int.tmod_nonneg g (show 0 ≤ -t by omega)
    rw [Int.neg_tmod] at this
    omega⟩

/-- Where the bucket begins. -/
def floorS (t g : Int) : Int := t - t % g
def bucketS (t g : Int) : Int := if g < 1 then 0 else if floorS t g < -9223372036854775808 then -9223372036854775808 else floorS t g
theorem floor_bd {t g : Int} (hg : 0 < g) : t - g < floorS t g ∧ floorS t g ≤ t := by
  have h0 := Int.emod_nonneg t (show g ≠ 0 by omega)
  have h1 := Int.emod_lt_of_pos t hg
  unfold floorS
  omega
theorem floor_mul (t g : Int) : floorS t g = t / g * g := by
  have := Int.emod_add_mul_ediv t g
  unfold floorS
  rw [Int.mul_comm]
  omega
theorem mul_step {a b g : Int} (hg : 0 < g) (h : a * g < b * g) : a * g + g ≤ b * g := by
  have h1 : a < b := Int.lt_of_mul_lt_mul_right h (Int.le_of_lt hg)
  have h2 : (a + 1) * g ≤ b * g := Int.mul_le_mul_of_nonneg_right (by omega) (Int.le_of_lt hg)
  rw [Int.add_mul, Int.one_mul] at h2
  exact h2
/-- The one multiple of g in (t - g, t]. -/
theorem floor_of {t g q : Int} (hg : 0 < g) (h1 : t - g < q * g) (h2 : q * g ≤ t) : floorS t g = q * g := by
  have hb := floor_bd (t := t) hg
  rw [floor_mul] at hb ⊢
  rcases Int.lt_trichotomy (t / g * g) (q * g) with h | h | h
  · have := mul_step hg h
    omega
  · exact h
  · have := mul_step hg h
    omega
theorem floor_same {t u g : Int} (hg : 0 < g) (h1 : floorS t g ≤ u) (h2 : u < floorS t g + g) : floorS u g = floorS t g := by
  rw [floor_mul t g] at h1 h2 ⊢
  exact floor_of hg (by omega) h1

/-- The next place behind t at which a bucket begins. -/
def nextS (t g : Int) : Int := floorS t g + g
theorem next_bd {t g : Int} (hg : 0 < g) : t < nextS t g ∧ nextS t g ≤ t + g := by
  have := floor_bd (t := t) hg
  unfold nextS
  omega
/-- The cut of [x, hi), behind out; None: more than may be. -/
def splitL (hi g : Int) : Nat → Int → List S26 → Option (List S26)
  | 0, x, out => if x < hi then none else some out
  | n + 1, x, out => if x < hi then splitL hi g n (min hi (nextS x g)) (out ++ [⟨x, min hi (nextS x g)⟩]) else some out
def splitS (s : S26) (g : Int) : List S26 × Int := if g < 1 then ([], 1) else match splitL s.f1 g 1000 s.f0 [] with
  | none => ([], 1)
  | some l => (l, 0)

/-- What a cut is: from x to hi, parts that touch, each in one bucket. -/
def Cut (g : Int) : Int → Int → List S26 → Prop
  | x, hi, [] => hi ≤ x
  | x, hi, s :: l => s.f0 = x ∧ x < hi ∧ s.f1 = min hi (nextS x g) ∧ Cut g s.f1 hi l
theorem splitL_cut {hi g : Int} : ∀ (n : Nat) (x : Int) (out l : List S26), splitL hi g n x out = some l → ∃ r, l = out ++ r ∧ Cut g x hi r
  | 0, x, out, l, h => by
    unfold splitL at h
    split at h
    · cases h
    · injection h with h
      exact ⟨[], by rw [h, List.append_nil], by show hi ≤ x; omega⟩
  | n + 1, x, out, l, h => by
    unfold splitL at h
    split at h
    · rename_i hlt
      obtain ⟨r, rfl, hr⟩ := splitL_cut n _ _ l h
      exact ⟨⟨x, min hi (nextS x g)⟩ :: r, by simp, rfl, hlt, rfl, hr⟩
    · injection h with h
      exact ⟨[], by rw [h, List.append_nil], by show hi ≤ x; omega⟩
end Go.Proofs.Ytabmablgaifidaa.PGrain
