/- Whether a filter holds of a fact, as a plain function; the contracts of slices.Contains and Index over texts, of strings.HasPrefix: no condition. -/
import Derived.Test.YtddjbhphhhdnfaaF2
import Derived.Test.YtddjbhphhhdnfaaF4
namespace Go.Proofs.Ytddjbhphhhdnfaa.K
open Go.RowKit
set_option linter.unusedVariables false
set_option linter.unusedSimpArgs false

/-- The order of texts: not less is greater or the same. -/
theorem bytes_geq : ∀ a b : List UInt8, (!Op.bytesLess a b) = (Op.bytesLess b a || b == a)
  | [], [] => by simp [Op.bytesLess]
  | a :: x, [] => by simp [Op.bytesLess]
  | [], b :: y => by simp [Op.bytesLess]
  | a :: x, b :: y => by
    have ih := bytes_geq x y
    simp only [Op.bytesLess]
    by_cases h1 : a < b
    · have h2 : ¬ b < a := fun h => UInt8.lt_irrefl a (UInt8.lt_trans h1 h)
      have h3 : ¬ b = a := fun h => by subst h; exact UInt8.lt_irrefl _ h1
      simp [h1, h2, h3]
    · by_cases h2 : a = b
      · subst h2
        simp [UInt8.lt_irrefl, ih]
      · have h3 : b < a := by
          rcases UInt8.lt_or_lt_of_ne h2 with h | h
          · exact absurd h h1
          · exact h
        have h4 : ¬ b = a := fun h => h2 h.symm
        simp [h1, h2, h3, h4]

def isText (t y : ByteArray) : Bool := t.toList == y.toList
theorem isText_comm (t y : ByteArray) : isText t y = isText y t := by
  unfold isText
  rw [Bool.eq_iff_iff]
  simp only [beq_iff_eq]
  exact eq_comm
def begins (t p : ByteArray) : Bool := decide (p.size ≤ t.size) && ((t.extract 0 p.size).toList == p.toList)

set_option maxHeartbeats 1000000 in
theorem index_any (t : ByteArray) (xs : List ByteArray) (A : Option Addr) (c : Nat) (w : World) (h : Kd.string.C w Any A xs.length xs) :
    Calls Try.prog 39 #[.slice A xs.length c, .string t] w fun e w' => e = .returned (.int .i64 (idxOf (isText t) xs)) ∧ w = w' := by
  have hn := h.2.1
  have HC := Aside.mk h
  clear h
  go_enter Try.func39, Try.ntmps39
  go_wp2
  go_loop [5, 8] (fun _ i => ∃ k : Nat, k ≤ xs.length ∧ i = .int .i64 k ∧ Aside (∀ j (hj : j < k) (hx : j < xs.length), isText t xs[j] = false)) (fun _ i => xs.length - (intOf i).toNat)
  case atStart => exact ⟨0, Nat.zero_le _, rfl, ⟨fun j hj => absurd hj (Nat.not_lt_zero _)⟩⟩
  case round =>
    obtain ⟨k, hk, rfl, HNO⟩ := hrel
    by_cases hlt : k < xs.length
    · obtain ⟨ad, hA, m0, hs⟩ := str_at HC.out (Below.refl _ w) hlt
      subst hA
      by_cases hp : isText t xs[k] = true
      · have HP := Aside.mk hp
        have he : (t.toList == xs[k].toList) = true := hp
        clear hp
        go_wp2
        go_ret
        exact ⟨by rw [idxOf_yes hlt HNO.out HP.out]; rfl, rfl⟩
      · have hp0 : isText t xs[k] = false := by simpa using hp
        have HP := Aside.mk hp0
        have he : (t.toList == xs[k].toList) = false := hp0
        clear hp hp0
        go_wp2
        go_round
        case rel =>
          refine ⟨k + 1, by omega, by go_num, ⟨fun j hj hx => ?_⟩⟩
          rcases Nat.lt_or_ge j k with h1 | h1
          · exact HNO.out j h1 hx
          · obtain rfl : j = k := by omega
            exact HP.out
        case measure => simp [intOf]; omega
    · go_wp2
      go_ret
      exact ⟨by rw [idxOf_no (fun j hx => HNO.out j (by omega) hx)]; rfl, rfl⟩
theorem contains_any (t : ByteArray) (xs : List ByteArray) (A : Option Addr) (c : Nat) (w : World) (h : Kd.string.C w Any A xs.length xs) :
    Calls Try.prog 26 #[.slice A xs.length c, .string t] w fun e w' => e = .returned (.bool (xs.any (isText t))) ∧ w = w' := by
  have HK := Aside.mk (index_any t xs A c w h)
  have HP := Aside.mk (idxOf_any (isText t) xs)
  generalize idxOf (isText t) xs = r at HK HP
  clear h
  go_enter Try.func26, Try.ntmps26
  go_wp2_with fail
  refine HK.out.mono ?_
  rintro e w2 ⟨rfl, rfl⟩
  go_wp2
  go_ret
  exact ⟨by rw [← HP.out.1]; rfl, rfl⟩
theorem hasPrefix_any (t p : ByteArray) (w : World) (ht : t.size ≤ 140737488355328) (hp : p.size ≤ 140737488355328) :
    Calls Try.prog 27 #[.string t, .string p] w fun e w' => e = .returned (.bool (begins t p)) ∧ w = w' := by
  have key : Calls Try.prog 40 #[.string t, .string p] w fun e w' => e = .returned (.bool (begins t p)) ∧ w = w' := by
    by_cases h : p.size ≤ t.size
    · have HB := Aside.mk (show begins t p = ((t.extract 0 p.size).toList == p.toList) by simp [begins, h])
      go_enter Try.func40, Try.ntmps40
      go_wp2
      go_ret
      exact ⟨ret_bool HB.out.symm, rfl⟩
    · have HB := Aside.mk (show begins t p = false by simp [begins, h])
      have hb : decide (p.size ≤ t.size) = false := by simpa using h
      go_enter Try.func40, Try.ntmps40
      go_wp2
      go_ret
      exact ⟨ret_bool HB.out.symm, rfl⟩
  have HK := Aside.mk key
  clear key
  go_enter Try.func27, Try.ntmps27
  go_wp2_with fail
  refine HK.out.mono ?_
  rintro e w2 ⟨rfl, rfl⟩
  go_wp2
  go_ret
  exact ⟨rfl, rfl⟩

def dimT (ft : Fact) (d : Int) : ByteArray := ft.Dims.getD d.toNat ByteArray.empty
def measT (ft : Fact) (d : Int) : Int := ft.Meas.getD d.toNat 0
/-- A part that has no kids. -/
def leafH (ft : Fact) (x : Filter) : Bool :=
  if x.Kind = 8 then decide (0 ≤ x.Dim) && decide (x.Dim < ft.Meas.length) && decide (x.Lo ≤ measT ft x.Dim) && decide (measT ft x.Dim ≤ x.Hi)
  else if x.Dim < 0 ∨ (ft.Dims.length : Int) ≤ x.Dim then false
  else if x.Kind = 5 then x.Texts.any (isText (dimT ft x.Dim))
  else if x.Kind = 6 ∧ x.Texts.length = 2 then (!Op.bytesLess (dimT ft x.Dim).toList (x.Texts.getD 0 ByteArray.empty).toList) && Op.bytesLess (dimT ft x.Dim).toList (x.Texts.getD 1 ByteArray.empty).toList
  else if x.Kind = 7 ∧ x.Texts.length = 1 then begins (dimT ft x.Dim) (x.Texts.getD 0 ByteArray.empty)
  else false
/-- Does the filter hold of the fact? -/
def holdsF (ft : Fact) (x : Filter) : Bool :=
  if x.Kind = 1 then true
  else if x.Kind = 2 then (kidsOf x).attach.any fun k => !holdsF ft k.1
  else if x.Kind = 3 then (kidsOf x).attach.all fun k => holdsF ft k.1
  else if x.Kind = 4 then (kidsOf x).attach.any fun k => holdsF ft k.1
  else leafH ft x
termination_by ht x
decreasing_by all_goals exact ht_kid k.2
theorem any_attach {α : Type} (l : List α) (p : α → Bool) : (l.attach.any fun k => p k.1) = l.any p := by
  rw [Bool.eq_iff_iff]; simp
theorem all_attach {α : Type} (l : List α) (p : α → Bool) : (l.attach.all fun k => p k.1) = l.all p := by
  rw [Bool.eq_iff_iff]; simp
theorem holdsF_eq (ft : Fact) (x : Filter) : holdsF ft x =
    if x.Kind = 1 then true else if x.Kind = 2 then (kidsOf x).any (fun k => !holdsF ft k) else if x.Kind = 3 then (kidsOf x).all (holdsF ft) else if x.Kind = 4 then (kidsOf x).any (holdsF ft) else leafH ft x := by
  rw [holdsF, any_attach (kidsOf x) (fun k => !holdsF ft k), all_attach (kidsOf x) (holdsF ft), any_attach (kidsOf x) (holdsF ft)]
end Go.Proofs.Ytddjbhphhhdnfaa.K
