/- Rollups, cubes and the comparing of sets, plainly. No condition beyond sizes. -/
import Derived.Test.YteleaflneejipaaDoorPQx1
import Derived.Test.YteleaflneejipaaDoorPQx2
namespace Go.Proofs.YteleaflneejipaaDoor.PQ
open Go.RowKit Go.Proofs.YteleaflneejipaaDoorW.PrintWords Go.Proofs.YteleaflneejipaaDoorW.PrintLast Go.Proofs.YteleaflneejipaaDoorW.PrintMore
set_option linter.unusedVariables false

theorem q_w64 {n : Int} (h0 : -9223372036854775808 ≤ n) (h1 : n ≤ 9223372036854775807) : wrap64 n = n := by
  unfold wrap64
  omega
def rollS (l : List Int) : Nat → List (List Int)
  | 0 => [l.take 0]
  | n + 1 => l.take (n + 1) :: rollS l n
theorem rollS_length (l : List Int) : ∀ n, (rollS l n).length = n + 1
  | 0 => rfl
  | n + 1 => by rw [rollS, List.length_cons, rollS_length l n]
theorem roll_loop {l : List Int} (hl : l.length ≤ 200) : ∀ (n : Nat) (out : List (List Int)), n ≤ l.length → out.length + n ≤ 400 → Ev (fun k => query_Rollup.l0 k l out (n : Int)) (out ++ rollS l n)
  | 0, out, hn, ho => by
    refine Ev.step (f := fun k => query_Rollup.l0 k l (out ++ [l.take 0]) (-1)) (fun k => ?_) (Ev.step (f := fun _ => some (out ++ rollS l 0)) (fun k => ?_) (Ev.now _))
    · simp only [query_Rollup.l0]
      rw [if_pos (by omega), if_pos (by omega), if_pos (by omega)]
      unfold slices_Clone_int_int.f
      rw [if_pos (by rw [List.length_take]; omega), Option.bind_some, if_pos (by omega), q_w64 (by omega) (by omega)]
      rfl
    · simp only [query_Rollup.l0]
      rw [if_neg (by omega)]
      rfl
  | n + 1, out, hn, ho => by
    have ih := roll_loop hl n (out ++ [l.take (n + 1)]) (by omega) (by rw [List.length_append, List.length_singleton]; omega)
    rw [List.append_assoc, List.singleton_append] at ih
    refine Ev.step (fun k => ?_) ih
    simp only [query_Rollup.l0]
    rw [if_pos (by omega), if_pos (by omega), if_pos (by omega)]
    unfold slices_Clone_int_int.f
    rw [if_pos (by rw [List.length_take]; omega), Option.bind_some, if_pos (by omega), q_w64 (by omega) (by omega)]
    have e1 : (((n + 1 : Nat) : Int)).toNat = n + 1 := rfl
    have e2 : ((n + 1 : Nat) : Int) - 1 = (n : Int) := by omega
    rw [e1, e2]
theorem roll_ev {l : List Int} (hl : l.length ≤ 200) : Ev (fun k => query_Rollup.f k l) (rollS l l.length) := roll_loop hl l.length [] (Nat.le_refl _) (by simp; omega)
theorem refRoll_loop {l : List Int} (hl : l.length ≤ 200) : ∀ (n : Nat) (out : List (List Int)), n ≤ l.length → out.length + n ≤ 400 → Ev (fun k => gristmillref08_Rollup.l0 k l out (n : Int)) (out ++ rollS l n)
  | 0, out, hn, ho => by
    refine Ev.step (f := fun k => gristmillref08_Rollup.l0 k l (out ++ [l.take 0]) (-1)) (fun k => ?_) (Ev.step (f := fun _ => some (out ++ rollS l 0)) (fun k => ?_) (Ev.now _))
    · simp only [gristmillref08_Rollup.l0]
      rw [if_pos (by omega), if_pos (by omega), if_pos (by omega), if_pos (by omega), q_w64 (by omega) (by omega)]
      rfl
    · simp only [gristmillref08_Rollup.l0]
      rw [if_neg (by omega)]
      rfl
  | n + 1, out, hn, ho => by
    have ih := refRoll_loop hl n (out ++ [l.take (n + 1)]) (by omega) (by rw [List.length_append, List.length_singleton]; omega)
    rw [List.append_assoc, List.singleton_append] at ih
    refine Ev.step (fun k => ?_) ih
    simp only [gristmillref08_Rollup.l0]
    rw [if_pos (by omega), if_pos (by omega), if_pos (by omega), if_pos (by omega), q_w64 (by omega) (by omega)]
    have e1 : (((n + 1 : Nat) : Int)).toNat = n + 1 := rfl
    have e2 : ((n + 1 : Nat) : Int) - 1 = (n : Int) := by omega
    rw [e1, e2]
theorem refRoll_ev {l : List Int} (hl : l.length ≤ 200) : Ev (fun k => gristmillref08_Rollup.f k l) (rollS l l.length) := refRoll_loop hl l.length [] (Nat.le_refl _) (by simp; omega)
def cubeS : List Int → List (List Int)
  | [] => [[]]
  | d :: t => (cubeS t).map (fun l => d :: l) ++ cubeS t
theorem cubeS_length : ∀ l : List Int, (cubeS l).length = 2 ^ l.length
  | [] => rfl
  | d :: t => by rw [cubeS, List.length_append, List.length_map, cubeS_length t, List.length_cons, Nat.pow_succ]; omega
def cubeR (l : List Int) : List (List Int) := if l.length ≤ 6 then cubeS l else []
theorem cube_few (l : List Int) (h : l.length ≤ 6) : query_Cube.f 1000 l = some (cubeS l) ∧ gristmillref08_Cube.f 1000 l = some (cubeS l) := by
  match l, h with
  | [], _ => exact ⟨by kernel_rfl, by kernel_rfl⟩
  | [a], _ => exact ⟨by kernel_rfl, by kernel_rfl⟩
  | [a, b], _ => exact ⟨by kernel_rfl, by kernel_rfl⟩
  | [a, b, c], _ => exact ⟨by kernel_rfl, by kernel_rfl⟩
  | [a, b, c, d], _ => exact ⟨by kernel_rfl, by kernel_rfl⟩
  | [a, b, c, d, e], _ => exact ⟨by kernel_rfl, by kernel_rfl⟩
  | [a, b, c, d, e, f], _ => exact ⟨by kernel_rfl, by kernel_rfl⟩
  | _ :: _ :: _ :: _ :: _ :: _ :: _ :: _, h => simp at h
theorem cube_is (l : List Int) : query_Cube.f 1000 l = some (cubeR l) ∧ gristmillref08_Cube.f 1000 l = some (cubeR l) := by
  unfold cubeR
  by_cases h : l.length ≤ 6
  · rw [if_pos h]
    exact cube_few l h
  · rw [if_neg h]
    unfold query_Cube.f gristmillref08_Cube.f
    rw [if_pos (by omega), if_pos (by omega)]
    exact ⟨rfl, rfl⟩
theorem rdL1_is {xs : List (List Int)} {i : Nat} (h : i < xs.length) : rd_L1 xs (i : Int) = xs[i] := by
  unfold rd_L1
  rw [Int.toNat_natCast, List.getD_eq_getElem?_getD, List.getElem?_eq_getElem h]
  rfl
def Small (xs : List (List Int)) : Prop := xs.length ≤ 1000 ∧ ∀ l ∈ xs, l.length ≤ 1000
theorem sets_row {xs : List (List Int)} (hx : Small xs) {j : Nat} (hj : j < xs.length) (hnext : Ev (fun k => gristmillref08_Sets.l0 k xs xs ((j + 1 : Nat) : Int)) true) : ∀ (n i : Nat), i + n = xs[j].length → Ev (fun k => gristmillref08_Sets.l1 k xs xs (j : Int) (i : Int)) true
  | 0, i, hi => by
    have h1 := hx.1
    refine Ev.step (fun k => ?_) hnext
    simp only [gristmillref08_Sets.l1]
    rw [if_pos (by omega), if_pos (by omega), rdL1_is hj, if_neg (by omega), q_w64 (by omega) (by omega)]
    rfl
  | n + 1, i, hi => by
    have h1 := hx.1
    have h2 := hx.2 _ (List.getElem_mem hj)
    have ih := sets_row hx hj hnext n (i + 1) (by omega)
    refine Ev.step (fun k => ?_) ih
    simp only [gristmillref08_Sets.l1]
    rw [if_pos (by omega), if_pos (by omega), rdL1_is hj, if_pos (by omega), if_pos (by omega), if_pos (by omega), if_pos (by omega), if_pos trivial, q_w64 (by omega) (by omega)]
    rfl
theorem sets_loop {xs : List (List Int)} (hx : Small xs) : ∀ (n j : Nat), j + n = xs.length → Ev (fun k => gristmillref08_Sets.l0 k xs xs (j : Int)) true
  | 0, j, hj => by
    refine Ev.step (f := fun _ => some true) (fun k => ?_) (Ev.now _)
    simp only [gristmillref08_Sets.l0]
    rw [if_neg (by omega)]
  | n + 1, j, hj => by
    have hlt : j < xs.length := by omega
    have ih := sets_loop hx n (j + 1) (by omega)
    refine Ev.step (fun k => ?_) (sets_row hx hlt ih xs[j].length 0 (by omega))
    simp only [gristmillref08_Sets.l0]
    rw [if_pos (by omega), if_pos (by omega), if_pos (by omega), if_pos trivial]
    rfl
theorem sets_ev {xs : List (List Int)} (hx : Small xs) : Ev (fun k => gristmillref08_Sets.f k xs xs) true := by
  refine Ev.congr (fun k => ?_) (sets_loop hx xs.length 0 (by omega))
  unfold gristmillref08_Sets.f
  rw [if_pos rfl]
  rfl
theorem rollS_small {l : List Int} (hl : l.length ≤ 200) : ∀ n, n ≤ 200 → Small (rollS l n)
  | 0, _ => ⟨by rw [rollS_length]; omega, fun x hx => by
      obtain rfl := List.mem_singleton.1 hx
      rw [List.length_take]; omega⟩
  | n + 1, hn => ⟨by rw [rollS_length]; omega, fun x hx => by
      rcases List.mem_cons.1 hx with rfl | hx
      · rw [List.length_take]; omega
      · exact (rollS_small hl n (by omega)).2 x hx⟩
theorem cubeS_mem : ∀ (l : List Int) (x : List Int), x ∈ cubeS l → x.length ≤ l.length
  | [], x, hx => by
    obtain rfl := List.mem_singleton.1 hx
    exact Nat.le_refl _
  | d :: t, x, hx => by
    rcases List.mem_append.1 hx with hx | hx
    · obtain ⟨y, hy, rfl⟩ := List.mem_map.1 hx
      have := cubeS_mem t y hy
      simp
      omega
    · have := cubeS_mem t x hx
      simp
      omega
theorem cubeR_small (l : List Int) : Small (cubeR l) := by
  unfold cubeR
  split
  · rename_i h
    refine ⟨?_, fun x hx => Nat.le_trans (cubeS_mem l x hx) (by omega)⟩
    rw [cubeS_length]
    have : 2 ^ l.length ≤ 2 ^ 6 := Nat.pow_le_pow_right (by decide) h
    omega
  · exact ⟨by simp, fun x hx => by cases hx⟩
end Go.Proofs.YteleaflneejipaaDoor.PQ
